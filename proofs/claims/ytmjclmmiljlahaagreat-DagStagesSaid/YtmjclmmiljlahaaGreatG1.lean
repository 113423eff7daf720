/-
  Parts of a proof: strings and names. No condition.
-/
import Derived.Test.YtmjclmmiljlahaaGreatRows
import Derived.WalkKit
import Derived.WalkSpells
import Derived.WalkLawsBesides
import Derived.Deep.AppendSrc
import Derived.Deep.DeepFit
import Derived.Deep.DeepMust
import Derived.Lib.Hide
import Derived.Deep.QuietTactic
import Derived.BigQuiet
import Derived.Deep.RegionHeld3
import Derived.StillTailTactics
import Derived.Deep.WholeRow
import Derived.Maps.Own
import Derived.Shelf.Small.Utf8
import Derived.Shelf.Small.Bits
import Derived.Shelf.Small.Strs
import Derived.Shelf.Small.Wraps
import Derived.Shelf.Strconv.Itoa0
import Derived.Shelf.Strings.Search1
import Derived.Shelf.Strings.Search2
import Derived.Shelf.Strings.Search3
import Derived.Shelf.Strings.Cut
import Derived.Shelf.LaysM
import Derived.Shelf.Strings.Shaped
import Derived.Shelf.Strings.Prefix
import Derived.Shelf.Strings.Runes
import Derived.Ground.Names2Prog
import Derived.Shelf.Slices.Clone
import Derived.Shelf.Slices.SearchI
import Derived.Shelf.Slices.Delete
import Derived.Shelf.Slices.Cells
import Derived.Shelf.Slices.Empties
import Derived.Ground.SlgnProg
import Derived.Shelf.SlicesE.Clone
import Derived.Test.YtmjclmmiljlahaaGreatProg
namespace Go.Proofs.YtmjclmmiljlahaaGreat
open Go.RowKit

/-- The colours of blocks: 0 is what nobody writes any more. -/
abbrev Col := Nat → Nat

/-- A slice value reads as these cells (n elements of 'size' cells), in blocks of colour 0. -/
def Sl (w : World) (col : Col) (size : Nat) (v : Value) (n : Nat) (cs : List Value) : Prop :=
  cs.length = n * size ∧ n ≤ 4294967296 ∧ ((v = .slice none 0 0 ∧ n = 0) ∨
    ∃ b off cap, v = .slice (some ⟨b, off, none⟩) n cap ∧ n ≤ cap ∧ cap ≤ maxLen ∧ b < w.heap.size ∧ col b = 0 ∧
      ∀ j, j < n * size → w.cell? ⟨b, off + j, none⟩ = cs[j]?)

/-- What a call keeps that makes new blocks alone. -/
abbrev Fresh (w w' : World) : Prop := Below w.heap.size w w'

theorem Fresh.rfl' (w : World) : Fresh w w := Below.refl _ _
theorem Fresh.trans' {a b c : World} (h : Fresh a b) (k : Fresh b c) : Fresh a c := h.trans (k.mono h.size)
theorem fcomp {a b c : World} (h : Fresh a b) (k : Fresh b c) : Fresh a c := h.trans (k.mono h.size)
theorem Fresh.ofDrew {w w' : World} (h : Fresh w.drew w') : Fresh w w' := Fresh.trans' (Fresh.rfl' w).drew h
theorem Fresh.keep {w wx : World} {a : Addr} {v : Value} (hb : Fresh w wx) (h : w.cell? a = some v) : wx.cell? a = some v := cell_later hb h
/-- A world behind which something is hidden: its facts alone are at hand. -/
theorem hideWorld (w0 : World) (p : World → Prop) (Q : World → Prop) (h : p w0) (hq : ∀ W, p W → Q W) : Q w0 := hq w0 h
theorem Fresh.cells {W w1 : World} (hb : Fresh W w1) : ∀ b o, b < W.heap.size → w1.cell? ⟨b, o, none⟩ = W.cell? ⟨b, o, none⟩ :=
  fun b o h => hb.cell (p := ⟨b, o, none⟩) h
theorem Fresh.frees {W w1 : World} (hb : Fresh W w1) : ∀ b o, b < W.heap.size → w1.frozen? ⟨b, o, none⟩ = W.frozen? ⟨b, o, none⟩ :=
  fun b o h => hb.frozen (p := ⟨b, o, none⟩) h
theorem Fresh.blocks {W w1 : World} (hb : Fresh W w1) : ∀ b, b < W.heap.size → w1.heap[b]? = W.heap[b]? := fun b h => hb.block b h

theorem Sl.fresh {w w' : World} {col : Col} {size n : Nat} {v : Value} {cs : List Value} (h : Sl w col size v n cs) (hf : Fresh w w') : Sl w' col size v n cs := by
  obtain ⟨h1, h2, h3⟩ := h
  refine ⟨h1, h2, ?_⟩
  rcases h3 with h3 | ⟨b, off, cap, rfl, hl, hm, hb, hc, hj⟩
  · exact .inl h3
  · refine .inr ⟨b, off, cap, rfl, hl, hm, Nat.lt_of_lt_of_le hb hf.size, hc, fun j hj' => ?_⟩
    rw [hf.cells _ _ hb]; exact hj j hj'

/-- The world's new blocks are of colour 0. -/
def ColOk (w : World) (col : Col) : Prop := ∀ b, w.heap.size ≤ b → col b = 0
theorem ColOk.fresh {w w' : World} {col : Col} (h : ColOk w col) (hf : Fresh w w') : ColOk w' col := fun b hb => h b (Nat.le_trans hf.size hb)

/-- 'append' onto a row that lies above w0: nothing of w0 turns. -/
theorem Fresh.app {w0 w w' : World} {base e size n : Nat} {v : Value} {cs : List Value} (h : Fresh w0 w) (hown : w.ownsRow base e size v n cs) (hb : w0.heap.size ≤ base) (hg : w.grownBy w' v.ownBlock) : Fresh w0 w' :=
  h.grown hg h.size (fun k hk => Nat.le_trans hb (hown.lt k hk).1)

/-- What stands in every world of the walk: new blocks are of colour 0; the library's own variable is there. -/
structure Std (w : World) (col : Col) : Prop where
  ok : ColOk w col
  max : ∃ m : Int, w.cell? ⟨0, 0, none⟩ = some (.int .i64 m)
  c0 : col 0 = 0
theorem Std.fresh {w w' : World} {col : Col} (h : Std w col) (hf : Fresh w w') : Std w' col :=
  ⟨h.ok.fresh hf, let ⟨m, hm⟩ := h.max; ⟨m, cell_later hf hm⟩, h.c0⟩

/-- What a call's own row reads. -/
theorem Sl.ofOwn {w w0 : World} {col : Col} {base e size n : Nat} {v : Value} {cs : List Value} (h : w.ownsRow base e size v n cs) (hn : n ≤ 4294967296)
    (hc : ColOk w0 col) (hb : w0.heap.size ≤ base) : Sl w col size v n cs := by
  refine ⟨h.1, hn, ?_⟩
  rcases h.2 with h2 | ⟨g, cap, cur, rfl, hg, hh, hnc, hm, hs, ht⟩
  · exact .inl h2
  · refine .inr ⟨g, 0, cap, rfl, hnc, hm, ?_, hc g (by omega), fun j hj => ?_⟩
    · exact (Array.getElem?_eq_some_iff.1 hh).1
    · have := World.ownsRow.cellAt h j hj
      rw [Nat.zero_add]; exact this

theorem Sl.src {w : World} {col : Col} {size n : Nat} {v : Value} {cs : List Value} (h : Sl w col size v n cs) {P : Program} {tx e' : TypeId} (hk : P.underlying tx = some (.slice e'))
    (h1 : ∀ u ∈ cs, u.oneCell' = true) : Src P size tx v n cs w := by
  obtain ⟨hl, _, h3⟩ := h
  rcases h3 with ⟨rfl, rfl⟩ | ⟨b, off, cap, rfl, _, _, _, _, hj⟩
  · have : cs = [] := List.eq_nil_of_length_eq_zero (by simpa using hl)
    subst this; exact Src.ofNil w hk 0
  · refine Src.ofSlice w hk _ n cap cs hl (fun j u hu => ?_) h1
    rw [Addr.add_lit, hj j (by have := (List.getElem?_eq_some_iff.1 hu).1; omega)]; exact hu

section
variable {P : Program} (w : World)
/-- 'append' onto a row of the call's own, from whatever source. -/
theorem run_append_own_src (base : Nat) (t tx ty e : TypeId) (i : TypeInfo) (z : Value) (size bytes : Nat) (ht : P.underlying t = some (.slice e)) (hi : P.info? e = some i) (hz : i.zero = some z)
    (hsize : i.size = size) (hby : i.bytes = bytes) (hzs : z.cells.size = size) (hsz : 0 < size)
    (v : Value) (n : Nat) (xs : List Value) (hown : w.ownsRow base e size v n xs)
    (x : Value) (m : Nat) (news : List Value) (hx : Src P size tx x m news w)
    (h63 : n + m ≤ maxLen) (hbytes : (n + m) * bytes ≤ 140737488355328) (hbase : base ≤ w.heap.size) :
    ∃ v' w', (Builtin.append_ #[t, tx] ty #[v, x]).run P w = .ok v' w' ∧ w'.ownsRow base e size v' (n + m) (xs ++ news) ∧ w.grownBy w' v.ownBlock ∧
      (v' = .slice none 0 0 ↔ v = .slice none 0 0 ∧ m = 0) := by
  subst hsize
  subst hby
  have hsmall : n + m ≤ 9223372036854775807 := by simp only [maxLen] at h63; omega
  have hl := hx.newsLen
  have hlen : (xs ++ news).length = (n + m) * i.size := by rw [List.length_append, hown.1, hl, Nat.add_mul]
  have grown : ∀ (old : Nat), old < n + m → ∀ (row : Option Nat),
      (w.drew.alloc (.cells ((xs ++ news).toArray ++ Builtin.zeroCells z.cells (grownCap w (n + m) old e - (n + m))) e)).ownsRow base e i.size
        (.slice (some ⟨w.heap.size, 0, none⟩) (n + m) (grownCap w (n + m) old e)) (n + m) (xs ++ news) ∧
      w.grownBy (w.drew.alloc (.cells ((xs ++ news).toArray ++ Builtin.zeroCells z.cells (grownCap w (n + m) old e - (n + m))) e)) row := by
    intro old ho row
    have hge := grownCap_ge w (n + m) old e
    have hcm : grownCap w (n + m) old e ≤ maxLen := grownCap_le_maxLen w (n + m) old e h63
    refine ⟨⟨hlen, .inr ⟨w.heap.size, _, _, rfl, hbase, heap_alloc_new w.drew _, hge, hcm, ?_, ?_⟩⟩, ⟨rfl, rfl, rfl, by simp, fun k hk _ => Below.heap_alloc w.drew _ k hk⟩⟩
    · simp only [Array.size_append, List.size_toArray, size_zeroCells, hzs, List.length_append, hown.1, hl, ← Nat.add_mul]
      congr 1
      omega
    · rw [Array.toList_append, List.take_append_of_le_length (by simp [hown.1, hl, Nat.add_mul])]
      exact List.take_of_length_le (by simp [hown.1, hl, Nat.add_mul])
  rcases hown.2 with ⟨rfl, rfl⟩ | ⟨g, cap, cur, rfl, hbg, hg, hnc, hcm, hcs, htake⟩
  · have hxs : xs = [] := List.eq_nil_of_length_eq_zero (by simpa using hown.1)
    subst hxs
    by_cases hm : m = 0
    · subst hm
      have hn : news = [] := List.eq_nil_of_length_eq_zero (by simpa using hl)
      subst hn
      refine ⟨.slice none 0 0, w, ?_, World.ownsRow_nil w base e i.size, ⟨rfl, rfl, rfl, Nat.le_refl _, fun _ _ _ => rfl⟩, by simp⟩
      rcases hx.kind with ⟨e', hk⟩ | hk <;> simp [Builtin.append_, run_underlying ht, run_underlying hk, sizeOf, typeInfo, hi, hx.len, hx.cells]
    · have hr := run_append_grow_src (P := P) w t tx ty e i z ht hi hz none 0 0 [] (by simp [Builtin.firstCells]) x m news hx (by omega) (by omega)
        (growslice_fits (by omega) (by simpa using hbytes))
      have hgr := grown 0 (by omega) (Value.ownBlock (.slice none 0 0))
      exact ⟨_, _, hr, hgr.1, hgr.2, by simp [hm]⟩
  · by_cases hroom : n + m ≤ cap
    · have hfit : n * i.size + news.length ≤ cur.size := by rw [hl, hcs, ← Nat.add_mul]; exact Nat.mul_le_mul_right _ hroom
      have hf := hx.cells
      have hst := run_storeCells_at P g (n * i.size) e news 0 cur w hg (by simpa using hfit) hx.one
      have hr : (Builtin.append_ #[t, tx] ty #[.slice (some ⟨g, 0, none⟩) n cap, x]).run P w =
        .ok (.slice (some ⟨g, 0, none⟩) (n + m) cap) (w.setRow g (cur.toList.take (n * i.size) ++ news ++ cur.toList.drop (n * i.size + news.length)).toArray) := by
        simp only [Nat.add_zero] at hst
        rcases hx.kind with ⟨e', hk⟩ | hk <;> simp [Builtin.append_, run_underlying ht, run_underlying hk, sizeOf, typeInfo, hi, hx.len, hroom, hf, Addr.add_lit, hst]
      refine ⟨_, _, hr, ⟨hlen, .inr ⟨g, cap, _, rfl, hbg, setRow_heap w g cur _ e _ hg, hroom, hcm, ?_, ?_⟩⟩, ⟨rfl, rfl, rfl, by simp [World.setRow], fun k _ hk => setRow_other w g k _ (fun e => hk (by simp [Value.ownBlock, e]))⟩, by simp⟩
      · simp only [List.size_toArray, List.length_append, List.length_take, List.length_drop, Array.length_toList]
        omega
      · rw [htake, ← hlen]
        simp only [List.take_left']
    · have holds : ∀ j u, xs[j]? = some u → w.cell? ((⟨g, 0, none⟩ : Addr).add j) = some u := hown.cells (g := g) rfl
      have hr := run_append_grow_src (P := P) w t tx ty e i z ht hi hz (some ⟨g, 0, none⟩) n cap xs
        (run_firstCells_some w.drew i.size n ⟨g, 0, none⟩ n cap xs hown.1 (by simpa using holds)) x m news hx (by omega) (by omega) (growslice_fits (by omega) hbytes)
      have hgr := grown cap (by omega) (Value.ownBlock (.slice (some ⟨g, 0, none⟩) n cap))
      exact ⟨_, _, hr, hgr.1, hgr.2, by simp⟩

theorem wpList_append_src {ops : Array Oper} {rest : List Oper} {o : Oper} {a : Act} {Q : Exit → Act → World → Prop} (hgd : o.guard = none) (s x : Operand) (t tx : TypeId)
    (ho : o.op = .call { callee := .builtin .append, args := #[s, x], argTypes := #[t, tx] })
    (base : Nat) (e : TypeId) (z : Value) (size bytes : Nat) (ht : P.underlying t = some (.slice e)) (hi : (P.info? e).map (fun i => (i.zero, i.size, i.bytes)) = some (some z, size, bytes))
    (hzs : z.cells.size = size) (hsz : 0 < size)
    (v : Value) (n : Nat) (xs : List Value) (hs : a.eval s = v) (hown : w.ownsRow base e size v n xs)
    (vx : Value) (m : Nat) (news : List Value) (hxv : a.eval x = vx) (hx : Src P size tx vx m news w)
    (h63 : n + m ≤ maxLen) (hbytes : (n + m) * bytes ≤ 140737488355328) (hbase : base ≤ w.heap.size)
    (h : ∀ v' w', w'.ownsRow base e size v' (n + m) (xs ++ news) → w.grownBy w' v.ownBlock → (v' = .slice none 0 0 ↔ v = .slice none 0 0 ∧ m = 0) → wpList P ops Q rest (a.put o.dst v') w') : wpList P ops Q (o :: rest) a w := by
  obtain ⟨i, hi, hz, hsize, hby⟩ := info_parts hi
  refine wpList_plain hgd fun K hK => ?_
  obtain ⟨v', w', hr, h2, h3, h4⟩ := run_append_own_src (P := P) w base t tx o.type e i z size bytes ht hi hz hsize hby hzs hsz v n xs hown vx m news hx h63 hbytes hbase
  unfold Oper.wp
  simp [execOp, ho, resolve, invoke, builtin, hs, hxv, hr, Result.andThen]
  exact hK _ _ (h v' w' h2 h3 h4)

theorem step_append_src {ops : Array Oper} {o : Oper} {a : Act} {K : Act → World → Prop} {Q : Exit → Act → World → Prop} {E : Prop} (hgd : o.guard = none) (s x : Operand) (t tx : TypeId)
    (ho : o.op = .call { callee := .builtin .append, args := #[s, x], argTypes := #[t, tx] })
    (base : Nat) (e : TypeId) (z : Value) (size bytes : Nat) (ht : P.underlying t = some (.slice e)) (hi : (P.info? e).map (fun i => (i.zero, i.size, i.bytes)) = some (some z, size, bytes))
    (hzs : z.cells.size = size) (hsz : 0 < size)
    (v : Value) (n : Nat) (xs : List Value) (hs : a.eval s = v) (hown : w.ownsRow base e size v n xs)
    (vx : Value) (m : Nat) (news : List Value) (hxv : a.eval x = vx) (hx : Src P size tx vx m news w)
    (h63 : n + m ≤ maxLen) (hbytes : (n + m) * bytes ≤ 140737488355328) (hbase : base ≤ w.heap.size)
    (h : ∀ v' w', w'.ownsRow base e size v' (n + m) (xs ++ news) → w.grownBy w' v.ownBlock → (v' = .slice none 0 0 ↔ v = .slice none 0 0 ∧ m = 0) → K (a.put o.dst v') w') :
    if Region.wanted o (yielded ops a.tmps) = true then Oper.wp P o a w K Q else E := by
  obtain ⟨i, hi, hz, hsize, hby⟩ := info_parts hi
  rw [if_pos (by simp [Region.wanted, hgd])]
  obtain ⟨v', w', hr, h2, h3, h4⟩ := run_append_own_src (P := P) w base t tx o.type e i z size bytes ht hi hz hsize hby hzs hsz v n xs hown vx m news hx h63 hbytes hbase
  unfold Oper.wp
  simp [execOp, ho, resolve, invoke, builtin, hs, hxv, hr, Result.andThen]
  exact h v' w' h2 h3 h4
end

/-- A goal at which the walk stands still till it is opened. -/
def Stand (p : Prop) : Prop := p
theorem Stand.stop {p : Prop} (h : Stand p) : p := h
theorem Stand.go {p : Prop} (h : p) : Stand p := h

/-- Stand still at an operation. -/
theorem stop_op {P : Program} {ops : Array Oper} {rest : List Oper} {o : Oper} {a : Act} {Q : Exit → Act → World → Prop} {w : World} (op : Op) (_ : o.op = op) (h : Stand (wpList P ops Q (o :: rest) a w)) : wpList P ops Q (o :: rest) a w := h

/-- A store of a whole struct into a row of the call's own. -/
theorem wpList_store_row {P : Program} {ops : Array Oper} {rest : List Oper} {o : Oper} {a : Act} {Q : Exit → Act → World → Prop} {w : World} (hgd : o.guard = none) (ty : TypeId) (x v : Operand) (ho : o.op = .store ty x v)
    (g : Nat) (hx : a.eval x = .pointer (some ⟨g, 0, none⟩)) (cs : Array Value) (hv : a.eval v = .agg cs) (t : TypeId) (cur : Array Value) (hg : w.heap[g]? = some (.cells cur t (0, 0)))
    (hi : (P.info? ty).map (·.size) = some cs.size) (hs : cur.size = cs.size) (h1 : cs.all (·.oneCell') = true)
    (h : wpList P ops Q rest (a.put o.dst undef) (w.setRow g cs)) : wpList P ops Q (o :: rest) a w :=
  wpList_plain hgd fun K hK => by
    unfold Oper.wp execOp
    simp only [ho, hx, hv, Instr.storeAt, Instr.sureAddr, Sem.run_bind, Sem.run_pure, Result.andThen_ok, run_storeVar_row w g t ty cur cs hg hi hs h1]
    exact hK _ _ h

/-- A store of a whole struct into the row that was made last. -/
theorem wpList_store_new {P : Program} {ops : Array Oper} {rest : List Oper} {o : Oper} {a : Act} {Q : Exit → Act → World → Prop} {w : World} (hgd : o.guard = none) (ty : TypeId) (x v : Operand) (ho : o.op = .store ty x v)
    (c : Array Value) (hx : a.eval x = .pointer (some ⟨w.heap.size, 0, none⟩)) (cs : Array Value) (hv : a.eval v = .agg cs)
    (hi : (P.info? ty).map (·.size) = some cs.size) (hs : c.size = cs.size) (h1 : cs.all (·.oneCell') = true)
    (h : wpList P ops Q rest (a.put o.dst undef) (w.alloc (.cells cs ty))) : wpList P ops Q (o :: rest) a (w.alloc (.cells c ty)) :=
  wpList_plain hgd fun K hK => by
    unfold Oper.wp execOp
    simp only [ho, hx, hv, Sem.run_bind, Result.andThen_ok, run_storeAt_new w ty c cs hi hs h1]
    exact hK _ _ h

theorem run_loadCells_at {P : Program} (w : World) (b off : Nat) (cs : Array Value) (h : ∀ j, j < cs.size → w.cell? ⟨b, off + j, none⟩ = cs[j]?) :
    ∀ n i (acc : Array Value), i + n = cs.size → acc = (cs.toList.take i).toArray → (loadCellsFrom ⟨b, off, none⟩ i n acc).run P w = .ok cs w
  | 0, i, acc, hn, ha => by
    subst ha
    simp only [loadCellsFrom]
    rw [List.take_of_length_le (by simp; omega)]; rfl
  | n + 1, i, acc, hn, ha => by
    have hi : i < cs.size := by omega
    have hc := h i hi
    rw [Array.getElem?_eq_getElem hi] at hc
    simp only [loadCellsFrom, Addr.add_lit, Sem.run_bind]
    have hl : (load (⟨b, off + i, none⟩ : Addr)).run P w = .ok cs[i] w := by simp [load, Sem.run, hc]
    rw [hl, Result.andThen_ok]
    refine run_loadCells_at w b off cs h n (i + 1) _ (by omega) ?_
    subst ha
    rw [List.take_succ_eq_append_getElem (by simpa using hi)]
    simp

/-- A load of a whole struct, from wherever its cells are known. -/
theorem wpList_load_cells {P : Program} {ops : Array Oper} {rest : List Oper} {o : Oper} {a : Act} {Q : Exit → Act → World → Prop} {w : World} (hgd : o.guard = none) (ty : TypeId) (x : Operand) (ho : o.op = .load ty x)
    (b off : Nat) (hx : a.eval x = .pointer (some ⟨b, off, none⟩)) (cs : Array Value) (hc : ∀ j, j < cs.size → w.cell? ⟨b, off + j, none⟩ = cs[j]?) (d : TypeDesc)
    (hu : P.underlying ty = some d) (hd : (match d with | .struct _ | .array _ _ => true | _ => false) = true) (hi : (P.info? ty).map (·.size) = some cs.size)
    (h : wpList P ops Q rest (a.put o.dst (.agg cs)) w) : wpList P ops Q (o :: rest) a w :=
  wpList_plain hgd fun K hK => by
    have hl : (loadVar ty ⟨b, off, none⟩).run P w = .ok (.agg cs) w := by
      obtain ⟨i, hi1, hi2⟩ := Option.map_eq_some_iff.1 hi
      have hlc := run_loadCells_at (P := P) w b off cs hc cs.size 0 #[] (by omega) (by simp)
      have hagg : (isAgg ty).run P w = .ok true w := by
        cases d <;> simp at hd <;> simp [isAgg, run_underlying hu]
      have hso : (sizeOf ty).run P w = .ok cs.size w := by simp [sizeOf, typeInfo, hi1, hi2]
      simp only [loadVar, Sem.run_bind, hagg, Result.andThen_ok, if_true, hso, loadCells, hlc]
      rfl
    unfold Oper.wp execOp
    simp only [ho, hx, Instr.loadAt, Instr.sureAddr, Sem.run_bind, Sem.run_pure, Result.andThen_ok, hl]
    exact hK _ _ h

theorem results_cell_tmp {P : Program} {fn : Func} {p u : Tmp} {ty : TypeId} (h : fn.results = #[.cell p ty, .tmp u]) (tmps : Array Value) (w : World) (g : Nat) (t : TypeId) (cs : Array Value) (fr : Nat × Nat) (d : TypeDesc)
    (hp : tmps.getD p undef = .pointer (some ⟨g, 0, none⟩)) (hg : w.heap[g]? = some (.cells cs t fr))
    (hu : P.underlying ty = some d) (hd : (match d with | .struct _ | .array _ _ => true | _ => false) = true) (hi : (P.info? ty).map (·.size) = some cs.size) :
    (results fn tmps).run P w = .ok (.tuple #[.agg cs, tmps.getD u undef]) w := by
  have hp' : tmps[p]?.getD undef = .pointer (some ⟨g, 0, none⟩) := by simpa using hp
  simp [results, h, hp', asAddr, run_loadVar_row w g t ty cs fr d hg hu hd hi]

theorem fresh_setRow {w0 w : World} {g : Nat} {cs : Array Value} (h : Fresh w0 w) (hg : w0.heap.size ≤ g) : Fresh w0 (w.setRow g cs) :=
  h.trans ⟨rfl, rfl, rfl, by simp [World.setRow], fun k hk => setRow_other w g k _ (by omega)⟩

/-! The rows of the types' table. -/
theorem info9 : (Tryz.prog.info? 9).map (fun i => (i.zero, i.size, i.bytes)) = some (some (.string ⟨#[]⟩), 1, 16) := by kernel_rfl

theorem info36 : (Tryz.prog.info? 36).map (fun i => (i.zero, i.size, i.bytes)) = some (some (.agg #[.int .i64 0, .bool false, .int .i64 0, .string ⟨#[]⟩, .slice none 0 0, .slice none 0 0]), 6, 88) := by kernel_rfl
theorem info72 : (Tryz.prog.info? 72).map (fun i => (i.zero, i.size, i.bytes)) = some (some (.agg #[.string ⟨#[]⟩, .int .i64 0, .bool false, .int .i64 0, .string ⟨#[]⟩, .slice none 0 0, .slice none 0 0]), 7, 104) := by kernel_rfl
theorem info80 : (Tryz.prog.info? 80).map (fun i => (i.zero, i.size, i.bytes)) = some (some (.agg #[.string ⟨#[]⟩, .string ⟨#[]⟩, .string ⟨#[]⟩]), 3, 48) := by kernel_rfl

@[go_sem] theorem eql30 (w : World) (a : Option Addr) (n c : Nat) : (binOp .eql 30 (.slice a n c) (.slice none 0 0)).run Tryz.prog w = .ok (.bool a.isNone) w := Lib.run_eql_slice_nil w 30 9 a n c 0 0 Tryz.underlying30
@[go_sem] theorem eql33 (w : World) (a : Option Addr) (n c : Nat) : (binOp .eql 33 (.slice a n c) (.slice none 0 0)).run Tryz.prog w = .ok (.bool a.isNone) w := Lib.run_eql_slice_nil w 33 36 a n c 0 0 Tryz.underlying33
@[go_sem] theorem eql34 (w : World) (a : Option Addr) (n c : Nat) : (binOp .eql 34 (.slice a n c) (.slice none 0 0)).run Tryz.prog w = .ok (.bool a.isNone) w := Lib.run_eql_slice_nil w 34 72 a n c 0 0 Tryz.underlying34
@[go_sem] theorem eql48 (w : World) (a : Option Addr) (n c : Nat) : (binOp .eql 48 (.slice a n c) (.slice none 0 0)).run Tryz.prog w = .ok (.bool a.isNone) w := Lib.run_eql_slice_nil w 48 80 a n c 0 0 Tryz.underlying48
@[go_sem] theorem build30_0 (w : World) : (Instr.buildSlice 30 0 #[]).run Tryz.prog w = .ok (.slice (some ⟨w.heap.size, 0, none⟩) 0 0) (w.alloc (.cells #[] 9)) := by kernel_rfl
@[go_sem] theorem build33_0 (w : World) : (Instr.buildSlice 33 0 #[]).run Tryz.prog w = .ok (.slice (some ⟨w.heap.size, 0, none⟩) 0 0) (w.alloc (.cells #[] 36)) := by kernel_rfl
@[go_sem] theorem build34_0 (w : World) : (Instr.buildSlice 34 0 #[]).run Tryz.prog w = .ok (.slice (some ⟨w.heap.size, 0, none⟩) 0 0) (w.alloc (.cells #[] 72)) := by kernel_rfl
@[go_sem] theorem build48_0 (w : World) : (Instr.buildSlice 48 0 #[]).run Tryz.prog w = .ok (.slice (some ⟨w.heap.size, 0, none⟩) 0 0) (w.alloc (.cells #[] 80)) := by kernel_rfl


theorem Sl.below {w : World} {col : Col} {size n : Nat} {v : Value} {cs : List Value} (h : Sl w col size v n cs) :
    (v = .slice none 0 0 ∧ n = 0 ∧ cs = []) ∨ ∃ b off cap, v = .slice (some ⟨b, off, none⟩) n cap ∧ n ≤ cap ∧ cap ≤ 9223372036854775807 ∧ b < w.heap.size ∧ col b = 0 ∧
      ∀ j, j < n * size → w.cell? ⟨b, off + j, none⟩ = cs[j]? := by
  obtain ⟨h1, h2, h3⟩ := h
  rcases h3 with ⟨rfl, rfl⟩ | ⟨b, off, cap, rfl, h4, h5, h6⟩
  · exact .inl ⟨rfl, rfl, List.eq_nil_of_length_eq_zero (by simpa using h1)⟩
  · exact .inr ⟨b, off, cap, rfl, h4, by unfold maxLen at h5; omega, h6⟩

/-- A list of strings, as a slice value reads. -/
def StrSl (w : World) (col : Col) (v : Value) (l : List ByteArray) : Prop := Sl w col 1 v l.length (l.map Value.string)

theorem strs_one (l : List ByteArray) : ∀ u ∈ l.map Value.string, u.oneCell' = true := by
  intro u hu
  obtain ⟨_, _, rfl⟩ := List.mem_map.1 hu
  rfl

/-- The first place from k on at which p holds, or -1. -/
def idxA {α : Type} (p : α → Bool) : List α → Nat → Int
  | [], _ => -1
  | a :: l, k => if p a then k else idxA p l (k + 1)

theorem Sl.open {w : World} {col : Col} {size n : Nat} {v : Value} {cs : List Value} (h : Sl w col size v n cs) :
    ∃ ao cap, v = .slice ao n cap ∧ n ≤ cap ∧ cap ≤ 9223372036854775807 ∧ n ≤ 4294967296 ∧
      (0 < n → ∃ b off, ao = some ⟨b, off, none⟩ ∧ b < w.heap.size ∧ col b = 0 ∧ ∀ j, j < n * size → w.cell? ⟨b, off + j, none⟩ = cs[j]?) := by
  obtain ⟨h1, h2, h3⟩ := h
  rcases h3 with ⟨rfl, rfl⟩ | ⟨b, off, cap, rfl, h4, h5, h6, h7, h8⟩
  · exact ⟨none, 0, rfl, Nat.le_refl _, by omega, by omega, fun h => by omega⟩
  · exact ⟨_, cap, rfl, h4, by unfold maxLen at h5; omega, h2, fun _ => ⟨b, off, rfl, h6, h7, h8⟩⟩

theorem StrSl.open {w : World} {col : Col} {v : Value} {l : List ByteArray} (h : StrSl w col v l) :
    ∃ ao cap, v = .slice ao l.length cap ∧ l.length ≤ cap ∧ cap ≤ 9223372036854775807 ∧ l.length ≤ 4294967296 ∧
      ∀ k (hk : k < l.length), ∃ b off, ao = some ⟨b, off, none⟩ ∧ b < w.heap.size ∧ w.cell? ⟨b, off + k, none⟩ = some (.string l[k]) := by
  obtain ⟨ao, cap, h1, h2, h3, h4, h5⟩ := Sl.open h
  refine ⟨ao, cap, h1, h2, h3, h4, fun k hk => ?_⟩
  obtain ⟨b, off, e, hb, _, hj⟩ := h5 (by omega)
  refine ⟨b, off, e, hb, ?_⟩
  rw [hj k (by omega)]; simp [hk]

theorem beq_toList (s t : ByteArray) : (s.toList == t.toList) = decide (s = t) := by
  rw [Bool.eq_iff_iff, beq_iff_eq, decide_eq_true_iff, ByteArray.toList_eq, ByteArray.toList_eq]
  constructor
  · intro h; exact ByteArray.ext (Array.ext' h)
  · rintro rfl; rfl
theorem ret_pair {a b c d : Value} (h : a = c) (h' : b = d) : Ending.returned (.tuple #[a, b]) = .returned (.tuple #[c, d]) := by rw [h, h']
theorem ret_int {k : IntKind} {a b : Int} (h : a = b) : Ending.returned (.int k a) = .returned (.int k b) := by rw [h]
theorem ret_bool {a b : Bool} (h : a = b) : Ending.returned (.bool a) = .returned (.bool b) := by rw [h]

theorem drop_cons {α : Type} {l : List α} {k : Nat} (h : k < l.length) : l.drop k = l[k] :: l.drop (k + 1) := by
  exact List.drop_eq_getElem_cons h

theorem idxA_hit {α : Type} {p : α → Bool} {l : List α} {k : Nat} (h : k < l.length) (hp : p l[k] = true) : idxA p (l.drop k) k = k := by
  rw [drop_cons h]; simp [idxA, hp]
theorem idxA_miss {α : Type} {p : α → Bool} {l : List α} {k : Nat} (h : k < l.length) (hp : p l[k] = false) : idxA p (l.drop k) k = idxA p (l.drop (k+1)) (k+1) := by
  rw [drop_cons h]; simp [idxA, hp]
theorem idxA_end {α : Type} {p : α → Bool} {l : List α} {k : Nat} (h : l.length ≤ k) : idxA p (l.drop k) k = -1 := by
  rw [List.drop_of_length_le h]; rfl
theorem idxA_lt {α : Type} (p : α → Bool) (l : List α) : ∀ k : Nat, -1 ≤ idxA p l k ∧ idxA p l k < k + l.length ∧ (0 ≤ idxA p l k → k ≤ idxA p l k) := by
  induction l with
  | nil => intro k; simp [idxA]; omega
  | cons a l ih =>
    intro k
    have := ih (k+1)
    unfold idxA
    split
    · simp; omega
    · simp; omega
theorem idxA_any {α : Type} (p : α → Bool) (l : List α) : ∀ k : Nat, (decide (0 ≤ idxA p l k)) = l.any p := by
  induction l with
  | nil => intro k; simp [idxA]
  | cons a l ih =>
    intro k
    unfold idxA
    split
    · rename_i h; simp [h]
    · rename_i h; simp [h, ← ih (k+1)]

/-! ### The data: JSON values, events. -/
inductive JV where
  | mk (kind : Int) (b : Bool) (n : Int) (text : ByteArray) (list : List JV) (fields : List (ByteArray × JV))
def JV.kind : JV → Int | .mk k _ _ _ _ _ => k
def JV.b : JV → Bool | .mk _ b _ _ _ _ => b
def JV.n : JV → Int | .mk _ _ n _ _ _ => n
def JV.text : JV → ByteArray | .mk _ _ _ t _ _ => t
def JV.list : JV → List JV | .mk _ _ _ _ l _ => l
def JV.fields : JV → List (ByteArray × JV) | .mk _ _ _ _ _ f => f
def JV.zero : JV := .mk 0 false 0 ⟨#[]⟩ [] []
instance : Inhabited JV := ⟨JV.zero⟩

/-- A slice's value. -/
structure SV where
  a : Option Addr
  n : Nat
  c : Nat
deriving Inhabited
abbrev sv (s : SV) : Value := .slice s.a s.n s.c
attribute [go_sem] sv
abbrev SV.nil : SV := ⟨none, 0, 0⟩

def vCells (v : JV) (a b : SV) : List Value := [.int .i64 v.kind, .bool v.b, .int .i64 v.n, .string v.text, sv a, sv b]

structure Ev where
  id : ByteArray
  ty : ByteArray
  room : ByteArray
  sender : ByteArray
  hk : Bool
  key : ByteArray
  prev : List ByteArray
  auth : List ByteArray
  depth : Int
  stamp : Int
  content : JV
  raw : JV

/-- The cells of rows of k cells each. -/
theorem flat_at {α : Type} {k : Nat} (n : Nat) (f : Nat → List α) (hf : ∀ i, i < n → (f i).length = k) (i j : Nat) (hi : i < n) (hj : j < k) :
    ((List.range n).flatMap f)[i * k + j]? = (f i)[j]? := by
  induction n generalizing i with
  | zero => omega
  | succ n ih =>
    have hlen : ∀ m, m ≤ n → ((List.range m).flatMap f).length = m * k := by
      intro m hm
      induction m with
      | zero => simp
      | succ m ihm => rw [List.range_succ, List.flatMap_append, List.length_append, ihm (by omega)]; simp [hf m (by omega), Nat.add_mul]
    rw [List.range_succ, List.flatMap_append]
    by_cases h : i < n
    · have : i * k + j < n * k := by
        have : (i + 1) * k ≤ n * k := Nat.mul_le_mul_right _ (by omega)
        rw [Nat.add_mul] at this; omega
      rw [List.getElem?_append_left (by rw [hlen n (Nat.le_refl _)]; exact this)]
      exact ih (fun i hi => hf i (by omega)) i h
    · obtain rfl : i = n := by omega
      rw [List.getElem?_append_right (by rw [hlen i (Nat.le_refl _)]; omega), hlen i (Nat.le_refl _)]
      simp

/-- Rows of 'size' cells each. -/
theorem Sl.rows {w : World} {col : Col} {size n : Nat} {v : Value} {f : Nat → List Value} (h : Sl w col size v n ((List.range n).flatMap f)) (hf : ∀ i, i < n → (f i).length = size) :
    ∃ ao cap, v = .slice ao n cap ∧ n ≤ cap ∧ cap ≤ 9223372036854775807 ∧ n ≤ 4294967296 ∧
      ∀ k, k < n → ∃ b off, ao = some ⟨b, off, none⟩ ∧ b < w.heap.size ∧ col b = 0 ∧ ∀ j, j < size → w.cell? ⟨b, off + k * size + j, none⟩ = (f k)[j]? := by
  obtain ⟨ao, cap, h1, h2, h3, h4, h5⟩ := Sl.open h
  refine ⟨ao, cap, h1, h2, h3, h4, fun k hk => ?_⟩
  obtain ⟨b, off, e, hb, hc, hj⟩ := h5 (by omega)
  refine ⟨b, off, e, hb, hc, fun j hj' => ?_⟩
  have hlt : k * size + j < n * size := by
    have := Nat.mul_le_mul_right size (show k + 1 ≤ n by omega)
    rw [Nat.add_mul] at this; omega
  rw [Nat.add_assoc, hj _ hlt, flat_at n f hf k j hk hj']

/-- A value's two slices read as its lists. -/
inductive JVIs (w : World) (col : Col) : JV → SV → SV → Prop
  | mk {v : JV} {a b : SV} (A B : Nat → SV × SV)
      (ha : Sl w col 6 (sv a) v.list.length ((List.range v.list.length).flatMap fun i => vCells (v.list.getD i default) (A i).1 (A i).2))
      (hb : Sl w col 7 (sv b) v.fields.length ((List.range v.fields.length).flatMap fun i => .string (v.fields.getD i default).1 :: vCells (v.fields.getD i default).2 (B i).1 (B i).2))
      (hl : ∀ i, i < v.list.length → JVIs w col (v.list.getD i default) (A i).1 (A i).2)
      (hf : ∀ i, i < v.fields.length → JVIs w col (v.fields.getD i default).2 (B i).1 (B i).2) : JVIs w col v a b

theorem JVIs.fresh {w w' : World} {col : Col} {v : JV} {a b : SV} (h : JVIs w col v a b) (hf : Fresh w w') : JVIs w' col v a b := by
  induction h with
  | mk A B ha hb _ _ ih1 ih2 => exact .mk A B (ha.fresh hf) (hb.fresh hf) ih1 ih2

/-- An event's values: its data, and its six slices. -/
structure EV where
  d : Ev
  prev : SV
  auth : SV
  cl : SV
  cf : SV
  rl : SV
  rf : SV
def EV.cells (e : EV) : Array Value :=
  #[.string e.d.id, .string e.d.ty, .string e.d.room, .string e.d.sender, .bool e.d.hk, .string e.d.key, sv e.prev, sv e.auth, .int .i64 e.d.depth, .int .i64 e.d.stamp,
    .int .i64 e.d.content.kind, .bool e.d.content.b, .int .i64 e.d.content.n, .string e.d.content.text, sv e.cl, sv e.cf,
    .int .i64 e.d.raw.kind, .bool e.d.raw.b, .int .i64 e.d.raw.n, .string e.d.raw.text, sv e.rl, sv e.rf]
structure EvIs (w : World) (col : Col) (e : EV) : Prop where
  prev : StrSl w col (sv e.prev) e.d.prev
  auth : StrSl w col (sv e.auth) e.d.auth
  content : JVIs w col e.d.content e.cl e.cf
  raw : JVIs w col e.d.raw e.rl e.rf
  small : e.d.prev.length + e.d.auth.length ≤ 4294967296
theorem EvIs.fresh {w w' : World} {col : Col} {e : EV} (h : EvIs w col e) (hf : Fresh w w') : EvIs w' col e :=
  ⟨h.prev.fresh hf, h.auth.fresh hf, h.content.fresh hf, h.raw.fresh hf, h.small⟩

end Go.Proofs.YtmjclmmiljlahaaGreat

namespace Go.Proofs.YtmjclmmiljlahaaGreat
open Go.RowKit
set_option maxHeartbeats 400000 in
theorem index_str (v : Value) (l : List ByteArray) (s : ByteArray) (col : Col) (w : World) (hv : StrSl w col v l) :
    Calls Tryz.prog 40 #[v, .string s] w fun e w' => e = .returned (.int .i64 (idxA (fun x => decide (s = x)) l 0)) ∧ w = w' := by
  obtain ⟨ao, cap, rfl, hc, hm, hlen, hj⟩ := hv.open
  have Hj := Lib.hid hj
  clear hj hv
  go_enter Tryz.func40, Tryz.ntmps40
  go_wp2
  go_loop [8] (fun i => ∃ k : Nat, k ≤ l.length ∧ i = .int .i64 k ∧ Hid (idxA (fun x => decide (s = x)) (l.drop k) k = idxA (fun x => decide (s = x)) l 0)) (fun i => l.length - (intOf i).toNat)
  case atStart => exact ⟨0, Nat.zero_le _, rfl, rfl⟩
  case round =>
    obtain ⟨k, hk, rfl, hr⟩ := hrel
    by_cases hlt : k < l.length
    · obtain ⟨b, off, rfl, hb, hcx⟩ := Hj.out k hlt
      cases he : (s.toList == l[k].toList)
      all_goals have he' := he; rw [beq_toList] at he'
      all_goals have He' := Lib.hid he'; clear he'
      · have hr' := idxA_miss (p := fun x => decide (s = x)) hlt He'.out
        have HR : Hid (idxA (fun x => decide (s = x)) (l.drop (k+1)) (k+1) = idxA (fun x => decide (s = x)) l 0) := by rw [← hr']; exact hr.out
        clear hr hr'
        go_wp2
        go_round
        case rel => exact ⟨k + 1, by omega, by go_num, HR⟩
        case measure => simp [intOf]; omega
      · have hr' := idxA_hit (p := fun x => decide (s = x)) hlt He'.out
        have HR : Hid ((k : Int) = idxA (fun x => decide (s = x)) l 0) := by rw [← hr']; exact hr.out
        clear hr hr'
        go_wp2
        go_ret
        exact ⟨ret_int HR.out, rfl⟩
    · have HR : Hid (-1 = idxA (fun x => decide (s = x)) l 0) := by rw [← hr.out, idxA_end (by omega)]; rfl
      clear hr
      go_wp2
      go_ret
      exact ⟨ret_int HR.out, rfl⟩

theorem contains_str (v : Value) (l : List ByteArray) (s : ByteArray) (col : Col) (w : World) (hv : StrSl w col v l) :
    Calls Tryz.prog 23 #[v, .string s] w fun e w' => e = .returned (.bool (l.any (fun x => decide (s = x)))) ∧ w = w' := by
  go_enter Tryz.func23, Tryz.ntmps23
  go_wp2_with (go_at_call 40; refine (index_str _ l s col _ hv).mono ?_; rintro e w' ⟨rfl, rfl⟩)
  go_ret
  exact ⟨ret_bool (idxA_any _ _ _), rfl⟩

theorem clone_str (v : Value) (l : List ByteArray) (col : Col) (w : World) (hcol : Std w col) (hv : StrSl w col v l) :
    Calls Tryz.prog 31 #[v] w fun e w' => ∃ v', e = .returned v' ∧ StrSl w' col v' l ∧ w'.ownsRow w.heap.size 9 1 v' l.length (l.map Value.string) ∧ Fresh w w' ∧ (v' = .slice none 0 0 ↔ v = .slice none 0 0) := by
  have hlen := hv.2.1
  rcases Sl.below hv with ⟨rfl, h0, _⟩ | ⟨b, off, cap, rfl, hc, hm, hb, _, hj⟩
  · have : l = [] := List.eq_nil_of_length_eq_zero h0
    subst this
    go_enter Tryz.func31, Tryz.ntmps31
    go_wp2
    go_ret
    exact ⟨_, rfl, hv, World.ownsRow_nil _ _ _ _, Fresh.rfl' _, by simp⟩
  · have Hv := Lib.hid hv
    clear hj hv
    go_enter Tryz.func31, Tryz.ntmps31
    go_wp2_with (at_builtin; refine Stand.stop ?_)
    refine Stand.go ?_
    refine wpList_append_src _ rfl _ _ 30 30 rfl w.heap.size 9 (.string ⟨#[]⟩) 1 16 Tryz.underlying30 info9 rfl (by decide) (.slice (some ⟨w.heap.size, 0, none⟩) 0 0) 0 [] rfl (World.ownsRow_lit _ #[] 0 (Nat.le_refl _) (by decide) rfl) _ l.length (l.map .string) rfl
      (Sl.src (Hv.out.fresh ((Fresh.rfl' w).alloc (Nat.le_refl _) _)) Tryz.underlying30 (strs_one l)) (by unfold maxLen; omega) (by omega) (by simp) ?_
    intro v' w' hown hg hnil
    go_wp2
    go_ret
    have hf : Fresh w w' := ((Fresh.rfl' w).alloc (Nat.le_refl _) _).grown hg (by simp) (by intro k hk; simp [Value.ownBlock] at hk; omega)
    rw [Nat.zero_add, List.nil_append] at hown
    exact ⟨_, rfl, Sl.ofOwn hown hlen hcol.ok (Nat.le_refl _), hown, hf, by simpa using hnil⟩
set_option maxRecDepth 10000 in
set_option maxHeartbeats 400000 in
/-- dag.needs: the events that an event names. -/
theorem needs_any (e : EV) (col : Col) (w : World) (hcol : Std w col) (he : EvIs w col e) :
    Calls Tryz.prog 24 #[.agg e.cells] w fun r w' => ∃ v', r = .returned v' ∧ StrSl w' col v' (e.d.prev ++ e.d.auth) ∧ Fresh w w' := by
  have hl1 := he.prev.2.1
  have hl2 := he.auth.2.1
  have hsum := he.small
  have Hp := Lib.hid he.prev
  have Ha := Lib.hid he.auth
  clear he
  unfold EV.cells
  go_enter Tryz.func24, Tryz.ntmps24
  go_wp2
  refine hideWorld _ (fun W => W.cell? ⟨w.heap.size, 6, none⟩ = some (.slice e.prev.a e.prev.n e.prev.c) ∧ W.cell? ⟨w.heap.size, 7, none⟩ = some (.slice e.auth.a e.auth.n e.auth.c) ∧ Fresh w W) _ ⟨by rw [World.cell?_alloc_at _ _ _ _ rfl]; rfl, by rw [World.cell?_alloc_at _ _ _ _ rfl]; rfl, (Fresh.rfl' w).alloc (Nat.le_refl _) _⟩ ?_
  rintro W ⟨hW6, hW7, hWF⟩
  have HF := Lib.hid hWF
  go_region_held3 (fun W => W.cell? ⟨w.heap.size, 6, none⟩ = some (.slice e.prev.a e.prev.n e.prev.c) ∧ W.cell? ⟨w.heap.size, 7, none⟩ = some (.slice e.auth.a e.auth.n e.auth.c)) (first | exact ⟨hW6, hW7⟩ | exact ⟨Fresh.keep (w := W) (Hid.out (by assumption)) hW6, Fresh.keep (w := W) (Hid.out (by assumption)) hW7⟩)
    (first
     | (go_at_call 31; refine (clone_str _ _ col _ (hcol.fresh (HF.out.trans' (Fresh.rfl' W).drew)) (Hp.out.fresh (HF.out.drew))).mono ?_; rintro r w1 ⟨v1, rfl, h1, h2, h3, h4⟩; have H3 : Hid (Fresh W w1) := h3.ofDrew; have H2 := Lib.hid h2; clear h1 h2 h3 h4)
     | (refine step_append_src _ rfl _ _ 30 30 rfl W.heap.size 9 (.string ⟨#[]⟩) 1 16 Tryz.underlying30 info9 rfl (by decide) _ e.d.prev.length (e.d.prev.map .string) rfl ((Hid.out (by assumption))) (sv e.auth) e.d.auth.length (e.d.auth.map .string) rfl ((Ha.out.fresh (HF.out.trans' (Hid.out (by assumption)))).src Tryz.underlying30 (strs_one _)) (by unfold maxLen; omega) (by omega) ((Hid.out (p := Fresh W _) (by assumption)).size) ?_
        intro v' w' hown hg hnil; have H6 : Hid (Fresh W w') := (Hid.out (p := Fresh W _) (by assumption)).app (Hid.out (by assumption)) (Nat.le_refl _) hg; have H5 := Lib.hid hown; clear hown hg hnil))
  go_wp2
  go_ret
  have hA : Fresh w _ := HF.out.trans' (Hid.out (p := Fresh W _) (by assumption))
  refine ⟨_, rfl, ?_, hA⟩
  have h5 := Hid.out H5
  unfold StrSl
  rw [List.map_append, List.length_append]
  exact Sl.ofOwn h5 hsum hcol.ok HF.out.size
end Go.Proofs.YtmjclmmiljlahaaGreat

namespace Go.Proofs.YtmjclmmiljlahaaGreat
open Go.RowKit

/-- The place of a key. -/
def posOf {κ : Type} [DecidableEq κ] (k : κ) : List κ → Option Nat
  | [] => none
  | a :: l => if a = k then some 0 else (posOf k l).map (· + 1)

theorem posOf_lt {κ : Type} [DecidableEq κ] {k : κ} : ∀ {l : List κ} {i : Nat}, posOf k l = some i → ∃ h : i < l.length, l[i] = k
  | [], i, h => by simp [posOf] at h
  | a :: l, i, h => by
    unfold posOf at h
    split at h
    · rename_i hk; simp at h; subst h; exact ⟨by simp, hk⟩
    · cases hp : posOf k l with
      | none => simp [hp] at h
      | some j =>
        simp [hp] at h; subst h
        obtain ⟨h1, h2⟩ := posOf_lt hp
        exact ⟨by simp; omega, by simpa using h2⟩
theorem posOf_none {κ : Type} [DecidableEq κ] {k : κ} : ∀ {l : List κ}, posOf k l = none ↔ k ∉ l
  | [] => by simp [posOf]
  | a :: l => by
    unfold posOf
    by_cases hk : a = k
    · simp [hk]
    · have hk' : k ≠ a := fun e => hk e.symm
      simp [hk, hk', posOf_none (l := l)]

/-- What a kind of keys must do: it is asked and found by equality. -/
structure KeyLaw {κ : Type} [DecidableEq κ] (kt : TypeId) (K : κ → Value) : Prop where
  inj : ∀ a b, K a = K b → a = b
  check : ∀ (e : Bool) (w : World) (k : κ), (Instr.checkKey e 10000 kt (K k)).run Tryz.prog w = .ok () w
  find : ∀ (w : World) (k : κ) (es : List MapEntry) (ks : List κ), es.map (·.key) = ks.map K →
    (Instr.findKey kt (K k) es).run Tryz.prog w = .ok ((posOf k ks).bind fun i => (es[i]?).map fun e => (i, e.val)) w
  same : ∀ (w : World) (k : κ), (Instr.keyThatStays (K k) (K k)).run Tryz.prog w = .ok (K k) w


theorem findNow_str (k : ByteArray) : ∀ (es : List MapEntry) (ks : List ByteArray) (i : Nat), es.map (·.key) = ks.map Value.string →
    Instr.findNow .string (.string k) es i = some ((posOf k ks).bind fun j => (es[j]?).map fun e => (i + j, e.val))
  | [], ks, i, h => by
    have : ks = [] := by cases ks <;> simp_all
    subst this; simp [Instr.findNow]
  | e :: es, [], i, h => by simp at h
  | e :: es, a :: ks, i, h => by
    simp only [List.map_cons, List.cons.injEq] at h
    unfold Instr.findNow
    rw [h.1]; unfold posOf
    have hb : Instr.sameNow .string (.string k) (.string a) = some (decide (a = k)) := by
      simp only [Instr.sameNow, Option.some.injEq]
      rw [Bool.eq_iff_iff, MapKept.bytes_beq, decide_eq_true_iff]; exact eq_comm
    rw [hb]
    by_cases hk : a = k
    · simp [hk]
    · simp only [hk, decide_false, if_false]
      rw [findNow_str k es ks (i + 1) h.2]
      cases posOf k ks with
      | none => simp
      | some j => simp [Nat.add_assoc, Nat.add_comm 1 j]

theorem strKey : KeyLaw 9 Value.string where
  inj := fun a b h => by injection h
  check := fun e w k => MapKept.run_checkKey Tryz.underlying9 (by simp [MapKept.IsKey]) e 9999
  find := fun w k es ks h => by
    have := findNow_str k es ks 0 h
    simp only [Nat.zero_add] at this
    exact MapKept.run_findKey Tryz.underlying9 this
  same := fun w k => MapKept.run_keyThatStays (d := .string) (by simp [MapKept.IsKey])

/-- Block b is a map with these entries, in the order in which they came. -/
def MapIs {κ : Type} (K : κ → Value) (w : World) (b : Nat) (kvs : List (κ × Value)) : Prop :=
  ∃ es clock, w.heap[b]? = some (.map es clock) ∧ es.toList.map (fun e => (e.key, e.val)) = kvs.map (fun p => (K p.1, p.2)) ∧ (kvs.map (·.1)).Nodup ∧ MapKept.Stamped es clock

section
variable {κ : Type} [DecidableEq κ] {kt : TypeId} {K : κ → Value} {w w' : World} {b : Nat} {kvs : List (κ × Value)}

omit [DecidableEq κ] in
theorem MapIs.block (h : MapIs K w b kvs) (e : w'.heap[b]? = w.heap[b]?) : MapIs K w' b kvs := by
  obtain ⟨es, clock, h1, h2⟩ := h
  exact ⟨es, clock, e.trans h1, h2⟩
omit [DecidableEq κ] in
theorem MapIs.lt (h : MapIs K w b kvs) : b < w.heap.size := by
  obtain ⟨es, clock, h1, _⟩ := h
  exact (Array.getElem?_eq_some_iff.1 h1).1
omit [DecidableEq κ] in
theorem MapIs.fresh (h : MapIs K w b kvs) (hf : Fresh w w') : MapIs K w' b kvs := h.block (hf.blocks b h.lt)

omit [DecidableEq κ] in
theorem MapIs.made (w : World) (K : κ → Value) : MapIs K (w.alloc (.map #[] 0)) w.heap.size [] :=
  ⟨#[], 0, (MapKept.heap_alloc w _).1, by simp, by simp, MapKept.stamped_empty 0⟩

omit [DecidableEq κ] in
theorem keys_of {es : Array MapEntry} {kvs : List (κ × Value)} (h : es.toList.map (fun e => (e.key, e.val)) = kvs.map (fun p => (K p.1, p.2))) :
    es.toList.map (·.key) = (kvs.map (·.1)).map K ∧ ∀ i : Nat, (es[i]?).map (·.val) = (kvs[i]?).map (·.2) := by
  constructor
  · have := congrArg (List.map Prod.fst) h
    simpa [List.map_map, Function.comp_def] using this
  · intro i
    have := congrArg (fun l => (l[i]?).map Prod.snd) h
    simpa [List.getElem?_map, Option.map_map, Function.comp_def] using this

/-- What a key stands for. -/
def getKV (kvs : List (κ × Value)) (k : κ) : Option Value := (posOf k (kvs.map (·.1))).bind fun i => (kvs[i]?).map (·.2)

theorem getKV_nil (k : κ) : getKV ([] : List (κ × Value)) k = none := rfl
theorem getKV_cons (p : κ × Value) (l : List (κ × Value)) (k : κ) : getKV (p :: l) k = if p.1 = k then some p.2 else getKV l k := by
  unfold getKV
  rw [List.map_cons, posOf]
  by_cases h : p.1 = k
  · simp [h]
  · simp only [h, if_false]
    cases posOf k (l.map (·.1)) <;> simp

theorem findRun (L : KeyLaw kt K) {es : Array MapEntry} (he : es.toList.map (fun e => (e.key, e.val)) = kvs.map (fun p => (K p.1, p.2))) (k : κ) (w : World) :
    (Instr.findKey kt (K k) es.toList).run Tryz.prog w = .ok ((posOf k (kvs.map (·.1))).bind fun i => (es.toList[i]?).map fun e => (i, e.val)) w :=
  L.find w k es.toList (kvs.map (·.1)) (keys_of he).1

theorem run_lookup_map (L : KeyLaw kt K) {t et : TypeId} (ht : Tryz.prog.underlying t = some (.map kt et)) {z : Value} (hz : ∀ w, (zeroValue et).run Tryz.prog w = .ok z w)
    (h : MapIs K w b kvs) (k : κ) (ok : Bool) :
    (Instr.lookup t (.map (some b)) (K k) ok).run Tryz.prog w =
      .ok (if ok then .tuple #[(getKV kvs k).getD z, .bool (getKV kvs k).isSome] else (getKV kvs k).getD z) w := by
  obtain ⟨es, clock, hb, he, hn, hs⟩ := h
  have hf := findRun L he k w
  have hv := (keys_of he).2
  have hk : ∀ i : Nat, (es.toList[i]?).map (fun e : MapEntry => (i, e.val)) = ((kvs[i]?).map (·.2)).map (fun v => (i, v)) := fun i => by
    rw [← hv i]; simp [Option.map_map, Function.comp_def]
  simp only [hk] at hf
  unfold getKV
  cases hi : posOf k (kvs.map (·.1)) with
  | none =>
    rw [hi] at hf
    cases ok <;> simp [Instr.lookup, run_underlying ht, MapKept.run_getObj_map hb, L.check, hf, hz]
  | some i =>
    rw [hi] at hf
    have hlt : i < kvs.length := by
      obtain ⟨h1, _⟩ := posOf_lt hi
      simpa using h1
    simp only [Option.bind_some, List.getElem?_eq_getElem hlt, Option.map_some] at hf ⊢
    cases ok <;> simp [Instr.lookup, run_underlying ht, MapKept.run_getObj_map hb, L.check, hf, hz]

/-- A map's entries behind a store. -/
def putKV (kvs : List (κ × Value)) (k : κ) (v : Value) : List (κ × Value) :=
  match posOf k (kvs.map (·.1)) with
  | some i => kvs.modify i fun p => (p.1, v)
  | none => kvs ++ [(k, v)]

/-- The world behind a change of a block that is no row of cells. -/
def World.setObj' (w : World) (b : Nat) (o : Obj) : World := { w with heap := w.heap.setIfInBounds b o }
theorem setObj'_at {w : World} {b : Nat} {o : Obj} (h : b < w.heap.size) : (World.setObj' w b o).heap[b]? = some o := by simp [World.setObj', h]
theorem setObj'_other {w : World} {b c : Nat} {o : Obj} (h : c ≠ b) : (World.setObj' w b o).heap[c]? = w.heap[c]? := by
  simp [World.setObj', Array.getElem?_setIfInBounds, Ne.symm h]
theorem setObj'_size {w : World} {b : Nat} {o : Obj} : (World.setObj' w b o).heap.size = w.heap.size := by simp [World.setObj']

omit [DecidableEq κ] in
theorem map_eraseIdx' {α β : Type} (f : α → β) : ∀ (l : List α) (i : Nat), (l.eraseIdx i).map f = (l.map f).eraseIdx i
  | [], _ => rfl
  | _ :: _, 0 => rfl
  | a :: l, i + 1 => by simp [List.eraseIdx, map_eraseIdx' f l i]
omit [DecidableEq κ] in
theorem modify_keys_kv {i : Nat} {v : Value} : (kvs.modify i fun p => (p.1, v)).map (·.1) = kvs.map (·.1) := by
  apply List.ext_getElem?; intro j
  simp only [List.getElem?_map, List.getElem?_modify]
  by_cases h : i = j <;> simp [h]
  subst h; cases kvs[i]? <;> simp

theorem run_update_map (L : KeyLaw kt K) {t et : TypeId} (ht : Tryz.prog.underlying t = some (.map kt et))
    (h : MapIs K w b kvs) (k : κ) (v : Value) :
    ∃ o, (Instr.mapUpdate t (.map (some b)) (K k) v).run Tryz.prog w = .ok () (World.setObj' w b o) ∧ MapIs K (World.setObj' w b o) b (putKV kvs k v) := by
  have hlt := h.lt
  obtain ⟨es, clock, hb, he, hn, hs⟩ := h
  have hf := findRun L he k w
  have hkeys := (keys_of he).1
  unfold putKV
  cases hi : posOf k (kvs.map (·.1)) with
  | none =>
    rw [hi] at hf
    simp only [Option.bind_none] at hf
    refine ⟨.map (es.push ⟨K k, v, clock⟩) (clock + 1), ?_, ?_⟩
    · simp [Instr.mapUpdate, run_underlying ht, MapKept.run_getObj_map hb, L.check, hf, MapKept.run_setObj_map _ hb, World.setObj']
    · refine ⟨_, _, setObj'_at hlt, ?_, ?_, MapKept.stamped_push hs ?_⟩
      · simp [he]
      · have := posOf_none.1 hi
        simp only [List.map_append, List.map_cons, List.map_nil]
        refine List.nodup_append.2 ⟨hn, by simp, ?_⟩
        intro a ha c hc e
        simp at hc; subst hc; subst e; exact this ha
      · intro x hx e
        have : x.key ∈ es.toList.map (·.key) := List.mem_map.2 ⟨x, hx, rfl⟩
        rw [hkeys, e] at this
        obtain ⟨a, ha, e'⟩ := List.mem_map.1 this
        exact posOf_none.1 hi (L.inj _ _ e' ▸ ha)
  | some i =>
    obtain ⟨hlt', hki⟩ := posOf_lt hi
    have hi' : i < es.toList.length := by
      have := congrArg List.length he
      simp at this hlt' ⊢; omega
    have hkey : (es.toList[i]).key = K k := by
      have := congrArg (fun l => l[i]?) hkeys
      simp only [List.getElem?_map, List.getElem?_eq_getElem hi', Option.map_some] at this
      rw [List.getElem?_eq_getElem (by simpa using hlt')] at this
      simp only [Option.map_some, Option.some.injEq] at this
      rw [this]
      simp at hki; rw [← hki]
    rw [hi] at hf
    simp only [Option.bind_some, List.getElem?_eq_getElem hi', Option.map_some] at hf
    have he2 : es[i]? = some es.toList[i] := by
      rw [← Array.getElem?_toList, List.getElem?_eq_getElem hi']
    refine ⟨.map (es.modify i fun e => { e with key := K k, val := v }) clock, ?_, ?_⟩
    · simp [Instr.mapUpdate, run_underlying ht, MapKept.run_getObj_map hb, L.check, hf]
      simp only [he2, Option.map_some, Option.getD_some, hkey]
      simp [L.same, MapKept.run_setObj_map _ hb, World.setObj']
    · refine ⟨_, _, setObj'_at hlt, ?_, ?_, MapKept.stamped_modify hs i _ (fun _ _ => rfl) ?_⟩
      · apply List.ext_getElem?; intro j
        have hj := congrArg (fun l => l[j]?) he
        simp only [List.getElem?_map, Array.getElem?_toList, Array.getElem?_modify, List.getElem?_modify] at hj ⊢
        by_cases h : i = j
        · subst h
          simp only [if_true, he2, Option.map_some] at hj ⊢
          cases hk : kvs[i]? with
          | none => simp [hk] at hj
          | some p =>
            simp [hk] at hj ⊢
            rw [← hj.1, ← hkey]; simp
        · simp [h, hj]
      · rw [modify_keys_kv]; exact hn
      · intro e he' heq
        rw [he2] at heq
        simp only [Option.some.injEq] at heq
        rw [← heq]; exact hkey.symm

/-- A map's entries behind a delete. -/
def delKV (kvs : List (κ × Value)) (k : κ) : List (κ × Value) :=
  match posOf k (kvs.map (·.1)) with
  | some i => kvs.eraseIdx i
  | none => kvs

theorem run_delete_map (L : KeyLaw kt K) {t et ty : TypeId} (ht : Tryz.prog.underlying t = some (.map kt et))
    (h : MapIs K w b kvs) (k : κ) :
    ∃ o, (Builtin.delete_ #[t] ty #[.map (some b), K k]).run Tryz.prog w = .ok (.tuple #[]) (World.setObj' w b o) ∧ MapIs K (World.setObj' w b o) b (delKV kvs k) := by
  have hlt := h.lt
  obtain ⟨es, clock, hb, he, hn, hs⟩ := h
  have hf := findRun L he k w
  have hkeys := (keys_of he).1
  unfold delKV
  cases hi : posOf k (kvs.map (·.1)) with
  | none =>
    rw [hi] at hf
    simp only [Option.bind_none] at hf
    refine ⟨.map es clock, ?_, ⟨es, clock, setObj'_at hlt, he, hn, hs⟩⟩
    simp [Builtin.delete_, run_underlying ht, MapKept.run_getObj_map hb, L.check, hf, MapKept.run_setObj_map _ hb, World.setObj']
  | some i =>
    obtain ⟨hlt', hki⟩ := posOf_lt hi
    have hi' : i < es.toList.length := by
      have := congrArg List.length he
      simp at this hlt' ⊢; omega
    have hi'' : i < es.size := by simpa using hi'
    rw [hi] at hf
    simp only [Option.bind_some, List.getElem?_eq_getElem hi', Option.map_some] at hf
    refine ⟨.map (es.eraseIdxIfInBounds i) clock, ?_, ⟨_, _, setObj'_at hlt, ?_, ?_, MapKept.stamped_erase hs i⟩⟩
    · simp [Builtin.delete_, run_underlying ht, MapKept.run_getObj_map hb, L.check, hf, MapKept.run_setObj_map _ hb, World.setObj']
    · unfold Array.eraseIdxIfInBounds
      rw [dif_pos hi'']
      rw [Array.toList_eraseIdx, map_eraseIdx', he, map_eraseIdx']
    · rw [map_eraseIdx']; exact (List.eraseIdx_sublist _ _).nodup hn

omit [DecidableEq κ] in
theorem run_len_map {t kt' et ty : TypeId} (ht : Tryz.prog.underlying t = some (.map kt' et)) (h : MapIs K w b kvs) :
    (Builtin.len_ #[t] ty #[.map (some b)]).run Tryz.prog w = .ok (.int .i64 kvs.length) w := by
  obtain ⟨es, clock, hb, he, hn, hs⟩ := h
  have hl := congrArg List.length he
  simp at hl
  simp [Builtin.len_, run_underlying ht, MapKept.run_getObj_map hb, goInt, hl]

end
end Go.Proofs.YtmjclmmiljlahaaGreat

/-
  DERIVED: THE SHELF's CONTRACTS AT THIS DUMP, IN PLAIN WORDS (tools/lay-plain.mjs out of 'TryzShelf.lean', which tools/lay-shelf.mjs wrote): THE SAME DECLARATIONS UNDER THE SAME NAMES: 'import', 'namespace', 'open', 'def', 'theorem' AND NOTHING ELSE: no command of the shelf's: FOR A HAND-IN. Each laying: the table of numbers ('.._ren') and one theorem, a field a fact of the dump's own or the kernel's comparison; each contract: ONE APPLICATION.
-/
namespace Go.Proofs
open Go.Shelf
def Tryz.lays119_ren : Go.Shelf.Ren := ⟨fun | 119 => 185 | n => n, fun | 21 => 21 | 4 => 4 | n => n, fun | n => n⟩
theorem Tryz.lays119 : Go.Proofs.Lays.n119 Tryz.prog Tryz.lays119_ren := {
  mixed := by kernel_rfl
  f119 := Tryz.func185.trans (congrArg some (by kernel_rfl))
  t4 := Tryz.underlying4
  a4 := Tryz.isAgg4
  z4 := Tryz.sizeOf4
  v4 := Tryz.zeroValue4
  t21 := Tryz.underlying21
  a21 := Tryz.isAgg21
  z21 := Tryz.sizeOf21
  v21 := Tryz.zeroValue21 }
/-- utf8.ValidRune: "ValidRune reports whether r can be legally encoded as UTF-8. Code points that are out of range or a surrogate half are illegal.": IT RETURNS 'Lib.validRune r'; the world is as it was. (LAID: no walk: one application.) -/
theorem Tryz.utf8_ValidRune (r : Int) (w : World) :
    Calls Tryz.prog 185 #[.int .i32 r] w fun e w' => e = .returned (.bool (Lib.validRune r)) ∧ w' = w := Any.utf8_ValidRune Tryz.lays119 r w
def Tryz.lays128_ren : Go.Shelf.Ren := ⟨fun | 128 => 96 | n => n, fun | 51 => 145 | 3 => 3 | 4 => 4 | 46 => 107 | 5 => 5 | 9 => 9 | n => n, fun | n => n⟩
theorem Tryz.lays128 : Go.Proofs.Lays.n128 Tryz.prog Tryz.lays128_ren := {
  mixed := by kernel_rfl
  f128 := Tryz.func96.trans (congrArg some (by kernel_rfl))
  t3 := Tryz.underlying3
  a3 := Tryz.isAgg3
  z3 := Tryz.sizeOf3
  v3 := Tryz.zeroValue3
  t4 := Tryz.underlying4
  a4 := Tryz.isAgg4
  z4 := Tryz.sizeOf4
  v4 := Tryz.zeroValue4
  t5 := Tryz.underlying5
  a5 := Tryz.isAgg5
  z5 := Tryz.sizeOf5
  v5 := Tryz.zeroValue5
  t9 := Tryz.underlying9
  a9 := Tryz.isAgg9
  z9 := Tryz.sizeOf9
  v9 := Tryz.zeroValue9
  t46 := Tryz.underlying107
  a46 := Tryz.isAgg107
  z46 := Tryz.sizeOf107
  v46 := Tryz.zeroValue107
  t51 := Tryz.underlying145
  a51 := Tryz.isAgg145
  z51 := Tryz.sizeOf145
  v51 := Tryz.zeroValue145 }
/-- bits.Len32: "Len32 returns the minimum number of bits required to represent x; the result is 0 for x == 0.": IT RETURNS 'Lib.bitLen x'; the world is as it was. ('h0', 'h1': x is a uint32.) (LAID: no walk: one application.) -/
theorem Tryz.bits_Len32 (x : Int) (w : World) (h0 : 0 ≤ x) (h1 : x ≤ 4294967295) :
    Calls Tryz.prog 96 #[.int .u32 x] w fun e w' => e = .returned (.int .i64 (Lib.bitLen x.toNat)) ∧ w' = w := Any.bits_Len32 Tryz.lays128 x w h0 h1
def Tryz.lays125_ren : Go.Shelf.Ren := ⟨fun | 125 => 63 | 128 => 96 | 129 => 97 | n => n, fun | 46 => 107 | 3 => 3 | 51 => 145 | 53 => 147 | 4 => 4 | 5 => 5 | 9 => 9 | n => n, fun | n => n⟩
theorem Tryz.lays125 : Go.Proofs.Lays.n125 Tryz.prog Tryz.lays125_ren := {
  mixed := by kernel_rfl
  f125 := Tryz.func63.trans (congrArg some (by kernel_rfl))
  f128 := Tryz.func96.trans (congrArg some (by kernel_rfl))
  f129 := Tryz.func97.trans (congrArg some (by kernel_rfl))
  t3 := Tryz.underlying3
  a3 := Tryz.isAgg3
  z3 := Tryz.sizeOf3
  v3 := Tryz.zeroValue3
  t4 := Tryz.underlying4
  a4 := Tryz.isAgg4
  z4 := Tryz.sizeOf4
  v4 := Tryz.zeroValue4
  t5 := Tryz.underlying5
  a5 := Tryz.isAgg5
  z5 := Tryz.sizeOf5
  v5 := Tryz.zeroValue5
  t9 := Tryz.underlying9
  a9 := Tryz.isAgg9
  z9 := Tryz.sizeOf9
  v9 := Tryz.zeroValue9
  t46 := Tryz.underlying107
  a46 := Tryz.isAgg107
  z46 := Tryz.sizeOf107
  v46 := Tryz.zeroValue107
  t51 := Tryz.underlying145
  a51 := Tryz.isAgg145
  z51 := Tryz.sizeOf145
  v51 := Tryz.zeroValue145
  t53 := Tryz.underlying147
  a53 := Tryz.isAgg147
  z53 := Tryz.sizeOf147
  v53 := Tryz.zeroValue147 }
/-- bits.Len: "Len returns the minimum number of bits required to represent x; the result is 0 for x == 0.": IT RETURNS 'Lib.bitLen x'; the world is as it was. (A uint has 64 bits in the model.) ITS CALLEE bits.Len64 IS MET BY ITS OWN CONTRACT OFF THE SHELF (lay that first). (LAID: no walk: one application.) -/
theorem Tryz.bits_Len (x : Int) (w : World) (h0 : 0 ≤ x) (h1 : x ≤ 18446744073709551615) :
    Calls Tryz.prog 63 #[.int .u64 x] w fun e w' => e = .returned (.int .i64 (Lib.bitLen x.toNat)) ∧ w' = w := Any.bits_Len Tryz.lays125 x w h0 h1
def Tryz.lays137_ren : Go.Shelf.Ren := ⟨fun | 137 => 184 | 217 => 140 | 266 => 161 | n => n, fun | 9 => 9 | 5 => 5 | 3 => 3 | n => n, fun | n => n⟩
theorem Tryz.lays137 : Go.Proofs.Lays.n137 Tryz.prog Tryz.lays137_ren := {
  mixed := by kernel_rfl
  f137 := Tryz.func184.trans (congrArg some (by kernel_rfl))
  f217 := Tryz.func140.trans (congrArg some (by kernel_rfl))
  f266 := Tryz.func161.trans (congrArg some (by kernel_rfl))
  t3 := Tryz.underlying3
  a3 := Tryz.isAgg3
  z3 := Tryz.sizeOf3
  v3 := Tryz.zeroValue3
  t5 := Tryz.underlying5
  a5 := Tryz.isAgg5
  z5 := Tryz.sizeOf5
  v5 := Tryz.zeroValue5
  t9 := Tryz.underlying9
  a9 := Tryz.isAgg9
  z9 := Tryz.sizeOf9
  v9 := Tryz.zeroValue9 }
open Go.RowKit in
/-- strings.IndexByte: "IndexByte returns the index of the first instance of c in s, or -1 if c is not present in s.": IT RETURNS 'Lib.indexByte s c'; the world is as it was. (LAID: no walk: one application.) -/
theorem Tryz.strings_IndexByte (s : ByteArray) (c : Int) (w : World) :
    Calls Tryz.prog 184 #[.string s, .int .u8 c] w fun e w' => e = .returned (.int .i64 (Lib.indexByte s.data.toList c.toNat.toUInt8)) ∧ w' = w := Any.strings_IndexByte Tryz.lays137 s c w
def Tryz.lays210_ren : Go.Shelf.Ren := ⟨fun | 210 => 64 | 206 => 98 | n => n, fun | 9 => 9 | 4 => 4 | 3 => 3 | n => n, fun | n => n⟩
theorem Tryz.lays210 : Go.Proofs.Lays.n210 Tryz.prog Tryz.lays210_ren := {
  mixed := by kernel_rfl
  f206 := Tryz.func98.trans (congrArg some (by kernel_rfl))
  f210 := Tryz.func64.trans (congrArg some (by kernel_rfl))
  t3 := Tryz.underlying3
  a3 := Tryz.isAgg3
  z3 := Tryz.sizeOf3
  v3 := Tryz.zeroValue3
  t4 := Tryz.underlying4
  a4 := Tryz.isAgg4
  z4 := Tryz.sizeOf4
  v4 := Tryz.zeroValue4
  t9 := Tryz.underlying9
  a9 := Tryz.isAgg9
  z9 := Tryz.sizeOf9
  v9 := Tryz.zeroValue9 }
open Go.RowKit in
/-- internal/stringslite.CutPrefix (what strings.CutPrefix calls). (LAID: no walk: one application.) -/
theorem Tryz.stringslite_CutPrefix (s p : ByteArray) (w : World) :
    Calls Tryz.prog 64 #[.string s, .string p] w fun e w' => e = .returned (.tuple #[.string ⟨(Lib.trimPrefix s.data.toList p.data.toList).toArray⟩, .bool (Lib.hasPrefix s.data.toList p.data.toList)]) ∧ w' = w := Any.stringslite_CutPrefix Tryz.lays210 s p w
def Tryz.lays103_ren : Go.Shelf.Ren := ⟨fun | 103 => 48 | 210 => 64 | 206 => 98 | n => n, fun | 9 => 9 | 4 => 4 | 24 => 90 | 3 => 3 | n => n, fun | n => n⟩
theorem Tryz.lays103 : Go.Proofs.Lays.n103 Tryz.prog Tryz.lays103_ren := {
  mixed := by kernel_rfl
  f103 := Tryz.func48.trans (congrArg some (by kernel_rfl))
  f206 := Tryz.func98.trans (congrArg some (by kernel_rfl))
  f210 := Tryz.func64.trans (congrArg some (by kernel_rfl))
  t3 := Tryz.underlying3
  a3 := Tryz.isAgg3
  z3 := Tryz.sizeOf3
  v3 := Tryz.zeroValue3
  t4 := Tryz.underlying4
  a4 := Tryz.isAgg4
  z4 := Tryz.sizeOf4
  v4 := Tryz.zeroValue4
  t9 := Tryz.underlying9
  a9 := Tryz.isAgg9
  z9 := Tryz.sizeOf9
  v9 := Tryz.zeroValue9
  t24 := Tryz.underlying90
  a24 := Tryz.isAgg90
  z24 := Tryz.sizeOf90
  v24 := Tryz.zeroValue90 }
open Go.RowKit in
/-- strings.CutPrefix: "CutPrefix returns s without the provided leading prefix string and reports whether it found the prefix. If s doesn't start with prefix, CutPrefix returns s, false. If prefix is the empty string, CutPrefix returns s, true.": IT RETURNS '(Lib.trimPrefix s p, Lib.hasPrefix s p)'; the world is as it was. (LAID: no walk: one application.) -/
theorem Tryz.strings_CutPrefix (s p : ByteArray) (w : World) :
    Calls Tryz.prog 48 #[.string s, .string p] w fun e w' => e = .returned (.tuple #[.string ⟨(Lib.trimPrefix s.data.toList p.data.toList).toArray⟩, .bool (Lib.hasPrefix s.data.toList p.data.toList)]) ∧ w' = w := Any.strings_CutPrefix Tryz.lays103 s p w
def Tryz.lays215_ren : Go.Shelf.Ren := ⟨fun | 215 => 147 | n => n, fun | 3 => 3 | 4 => 4 | n => n, fun | n => n⟩
theorem Tryz.lays215 : Go.Proofs.Lays.n215 Tryz.prog Tryz.lays215_ren := {
  mixed := by kernel_rfl
  f215 := Tryz.func147.trans (congrArg some (by kernel_rfl))
  t3 := Tryz.underlying3
  a3 := Tryz.isAgg3
  z3 := Tryz.sizeOf3
  v3 := Tryz.zeroValue3
  t4 := Tryz.underlying4
  a4 := Tryz.isAgg4
  z4 := Tryz.sizeOf4
  v4 := Tryz.zeroValue4 }
open Go.RowKit in
/-- cmp.isNaN at int: 'x != x': false. (LAID: no walk: one application.) -/
theorem Tryz.cmp_isNaN_int (x : Int) (w : World) :
    Calls Tryz.prog 147 #[.int .i64 x] w fun e w' => e = .returned (.bool false) ∧ w' = w := Any.cmp_isNaN_int Tryz.lays215 x w
def Tryz.lays122_ren : Go.Shelf.Ren := ⟨fun | 122 => 114 | 215 => 147 | n => n, fun | 3 => 3 | 4 => 4 | n => n, fun | n => n⟩
theorem Tryz.lays122 : Go.Proofs.Lays.n122 Tryz.prog Tryz.lays122_ren := {
  mixed := by kernel_rfl
  f122 := Tryz.func114.trans (congrArg some (by kernel_rfl))
  f215 := Tryz.func147.trans (congrArg some (by kernel_rfl))
  t3 := Tryz.underlying3
  a3 := Tryz.isAgg3
  z3 := Tryz.sizeOf3
  v3 := Tryz.zeroValue3
  t4 := Tryz.underlying4
  a4 := Tryz.isAgg4
  z4 := Tryz.sizeOf4
  v4 := Tryz.zeroValue4 }
open Go.RowKit in
/-- cmp.Compare at int: "Compare returns -1 if x is less than y, 0 if x equals y, +1 if x is greater than y.": IT RETURNS 'Lib.compareInt x y'; the world is as it was. (LAID: no walk: one application.) -/
theorem Tryz.cmp_Compare_int (x y : Int) (w : World) :
    Calls Tryz.prog 114 #[.int .i64 x, .int .i64 y] w fun e w' => e = .returned (.int .i64 (Lib.compareInt x y)) ∧ w' = w := Any.cmp_Compare_int Tryz.lays122 x y w
def Tryz.lays129_ren : Go.Shelf.Ren := ⟨fun | 129 => 97 | n => n, fun | 53 => 147 | 3 => 3 | 4 => 4 | 46 => 107 | 5 => 5 | 9 => 9 | n => n, fun | n => n⟩
theorem Tryz.lays129 : Go.Proofs.Lays.n129 Tryz.prog Tryz.lays129_ren := {
  mixed := by kernel_rfl
  f129 := Tryz.func97.trans (congrArg some (by kernel_rfl))
  t3 := Tryz.underlying3
  a3 := Tryz.isAgg3
  z3 := Tryz.sizeOf3
  v3 := Tryz.zeroValue3
  t4 := Tryz.underlying4
  a4 := Tryz.isAgg4
  z4 := Tryz.sizeOf4
  v4 := Tryz.zeroValue4
  t5 := Tryz.underlying5
  a5 := Tryz.isAgg5
  z5 := Tryz.sizeOf5
  v5 := Tryz.zeroValue5
  t9 := Tryz.underlying9
  a9 := Tryz.isAgg9
  z9 := Tryz.sizeOf9
  v9 := Tryz.zeroValue9
  t46 := Tryz.underlying107
  a46 := Tryz.isAgg107
  z46 := Tryz.sizeOf107
  v46 := Tryz.zeroValue107
  t53 := Tryz.underlying147
  a53 := Tryz.isAgg147
  z53 := Tryz.sizeOf147
  v53 := Tryz.zeroValue147 }
/-- bits.Len64: "Len64 returns the minimum number of bits required to represent x; the result is 0 for x == 0.": IT RETURNS 'Lib.bitLen x'; the world is as it was. ('h0', 'h1': x is a uint64.) (LAID: no walk: one application.) -/
theorem Tryz.bits_Len64 (x : Int) (w : World) (h0 : 0 ≤ x) (h1 : x ≤ 18446744073709551615) :
    Calls Tryz.prog 97 #[.int .u64 x] w fun e w' => e = .returned (.int .i64 (Lib.bitLen x.toNat)) ∧ w' = w := Any.bits_Len64 Tryz.lays129 x w h0 h1
def Tryz.lays217_ren : Go.Shelf.Ren := ⟨fun | 217 => 140 | 266 => 161 | n => n, fun | 9 => 9 | 5 => 5 | 3 => 3 | n => n, fun | n => n⟩
theorem Tryz.lays217 : Go.Proofs.Lays.n217 Tryz.prog Tryz.lays217_ren := {
  mixed := by kernel_rfl
  f217 := Tryz.func140.trans (congrArg some (by kernel_rfl))
  f266 := Tryz.func161.trans (congrArg some (by kernel_rfl))
  t3 := Tryz.underlying3
  a3 := Tryz.isAgg3
  z3 := Tryz.sizeOf3
  v3 := Tryz.zeroValue3
  t5 := Tryz.underlying5
  a5 := Tryz.isAgg5
  z5 := Tryz.sizeOf5
  v5 := Tryz.zeroValue5
  t9 := Tryz.underlying9
  a9 := Tryz.isAgg9
  z9 := Tryz.sizeOf9
  v9 := Tryz.zeroValue9 }
open Go.RowKit Go.Lib in
/-- internal/stringslite.IndexByte (what strings.IndexByte calls): IT RETURNS 'Lib.indexByte s c'; the world is as it was. (LAID: no walk: one application.) -/
theorem Tryz.stringslite_IndexByte (s : ByteArray) (c : Int) (w : World) :
    Calls Tryz.prog 140 #[.string s, .int .u8 c] w fun e w' => e = .returned (.int .i64 (Lib.indexByte s.data.toList c.toNat.toUInt8)) ∧ w' = w := Any.stringslite_IndexByte Tryz.lays217 s c w
def Tryz.lays224_ren : Go.Shelf.Ren := ⟨fun | 224 => 142 | n => n, fun | 3 => 3 | n => n, fun | n => n⟩
theorem Tryz.lays224 : Go.Proofs.Lays.n224 Tryz.prog Tryz.lays224_ren := {
  mixed := by kernel_rfl
  f224 := Tryz.func142.trans (congrArg some (by kernel_rfl))
  t3 := Tryz.underlying3
  a3 := Tryz.isAgg3
  z3 := Tryz.sizeOf3
  v3 := Tryz.zeroValue3 }
open Go.RowKit Go.Lib in
/-- internal/bytealg.Cutover: "Cutover reports the number of failures of IndexByte we should tolerate before switching over to Index. n is the number of bytes processed so far.": on amd64: (n + 16) / 8. (LAID: no walk: one application.) -/
theorem Tryz.bytealg_Cutover (n : Int) (h0 : 0 ≤ n) (h1 : n < 4611686018427387904) (w : World) :
    Calls Tryz.prog 142 #[.int .i64 n] w fun e w' => e = .returned (.int .i64 ((n + 16) / 8)) ∧ w' = w := Any.bytealg_Cutover Tryz.lays224 n h0 h1 w
def Tryz.lays314_ren : Go.Shelf.Ren := ⟨fun | 314 => 162 | n => n, fun | 9 => 9 | 51 => 145 | 3 => 3 | 4 => 4 | 5 => 5 | 46 => 107 | n => n, fun | n => n⟩
theorem Tryz.lays314 : Go.Proofs.Lays.n314 Tryz.prog Tryz.lays314_ren := {
  mixed := by kernel_rfl
  f314 := Tryz.func162.trans (congrArg some (by kernel_rfl))
  t3 := Tryz.underlying3
  a3 := Tryz.isAgg3
  z3 := Tryz.sizeOf3
  v3 := Tryz.zeroValue3
  t4 := Tryz.underlying4
  a4 := Tryz.isAgg4
  z4 := Tryz.sizeOf4
  v4 := Tryz.zeroValue4
  t5 := Tryz.underlying5
  a5 := Tryz.isAgg5
  z5 := Tryz.sizeOf5
  v5 := Tryz.zeroValue5
  t9 := Tryz.underlying9
  a9 := Tryz.isAgg9
  z9 := Tryz.sizeOf9
  v9 := Tryz.zeroValue9
  t46 := Tryz.underlying107
  a46 := Tryz.isAgg107
  z46 := Tryz.sizeOf107
  v46 := Tryz.zeroValue107
  t51 := Tryz.underlying145
  a51 := Tryz.isAgg145
  z51 := Tryz.sizeOf145
  v51 := Tryz.zeroValue145 }
open Go.RowKit Go.Lib in
/-- hashStr: "returns the hash and the appropriate multiplicative factor for use in Rabin-Karp algorithm": THE HASH OF ALL OF sep, AND 16777619 ^ len(sep), both in uint32. (LAID: no walk: one application.) -/
theorem Tryz.bytealg_hashStr (sep : ByteArray) (hs : sep.size < 4294967281) (w : World) :
    Calls Tryz.prog 162 #[.string sep] w fun e w' => e = .returned (.tuple #[.int .u32 (RK.H sep.data.toList % 4294967296), .int .u32 (16777619 ^ sep.size % 4294967296)]) ∧ w' = w := Any.bytealg_hashStr Tryz.lays314 sep hs w
def Tryz.lays267_ren : Go.Shelf.Ren := ⟨fun | 267 => 143 | 314 => 162 | n => n, fun | 9 => 9 | 3 => 3 | 146 => 202 | 51 => 145 | 4 => 4 | 5 => 5 | 46 => 107 | n => n, fun | n => n⟩
theorem Tryz.lays267 : Go.Proofs.Lays.n267 Tryz.prog Tryz.lays267_ren := {
  mixed := by kernel_rfl
  f267 := Tryz.func143.trans (congrArg some (by kernel_rfl))
  f314 := Tryz.func162.trans (congrArg some (by kernel_rfl))
  t3 := Tryz.underlying3
  a3 := Tryz.isAgg3
  z3 := Tryz.sizeOf3
  v3 := Tryz.zeroValue3
  t4 := Tryz.underlying4
  a4 := Tryz.isAgg4
  z4 := Tryz.sizeOf4
  v4 := Tryz.zeroValue4
  t5 := Tryz.underlying5
  a5 := Tryz.isAgg5
  z5 := Tryz.sizeOf5
  v5 := Tryz.zeroValue5
  t9 := Tryz.underlying9
  a9 := Tryz.isAgg9
  z9 := Tryz.sizeOf9
  v9 := Tryz.zeroValue9
  t46 := Tryz.underlying107
  a46 := Tryz.isAgg107
  z46 := Tryz.sizeOf107
  v46 := Tryz.zeroValue107
  t51 := Tryz.underlying145
  a51 := Tryz.isAgg145
  z51 := Tryz.sizeOf145
  v51 := Tryz.zeroValue145
  t146 := Tryz.underlying202
  a146 := Tryz.isAgg202
  z146 := Tryz.sizeOf202
  v146 := Tryz.zeroValue202 }
open Go.RowKit Go.Lib in
theorem Tryz.bytealg_IndexRabinKarp (s sep : ByteArray) (h1 : 1 ≤ sep.size) (h2 : sep.size ≤ s.size) (hs : s.size < 4294967281) (w : World) :
    Calls Tryz.prog 143 #[.string s, .string sep] w fun e w' => e = .returned (.int .i64 (Lib.index s.data.toList sep.data.toList)) ∧ w' = w := Any.bytealg_IndexRabinKarp Tryz.lays267 s sep h1 h2 hs w
def Tryz.lays219_ren : Go.Shelf.Ren := ⟨fun | 219 => 99 | 217 => 140 | 225 => 141 | 224 => 142 | 267 => 143 | 266 => 161 | 314 => 162 | n => n, fun | 9 => 9 | 3 => 3 | 4 => 4 | 5 => 5 | 46 => 107 | 146 => 202 | 51 => 145 | n => n, fun | 1 => 0 | n => n⟩
theorem Tryz.lays219 : Go.Proofs.Lays.n219 Tryz.prog Tryz.lays219_ren := {
  mixed := by kernel_rfl
  f217 := Tryz.func140.trans (congrArg some (by kernel_rfl))
  f219 := Tryz.func99.trans (congrArg some (by kernel_rfl))
  f224 := Tryz.func142.trans (congrArg some (by kernel_rfl))
  f225 := Tryz.func141.trans (congrArg some (by kernel_rfl))
  f266 := Tryz.func161.trans (congrArg some (by kernel_rfl))
  f267 := Tryz.func143.trans (congrArg some (by kernel_rfl))
  f314 := Tryz.func162.trans (congrArg some (by kernel_rfl))
  t3 := Tryz.underlying3
  a3 := Tryz.isAgg3
  z3 := Tryz.sizeOf3
  v3 := Tryz.zeroValue3
  t4 := Tryz.underlying4
  a4 := Tryz.isAgg4
  z4 := Tryz.sizeOf4
  v4 := Tryz.zeroValue4
  t5 := Tryz.underlying5
  a5 := Tryz.isAgg5
  z5 := Tryz.sizeOf5
  v5 := Tryz.zeroValue5
  t9 := Tryz.underlying9
  a9 := Tryz.isAgg9
  z9 := Tryz.sizeOf9
  v9 := Tryz.zeroValue9
  t46 := Tryz.underlying107
  a46 := Tryz.isAgg107
  z46 := Tryz.sizeOf107
  v46 := Tryz.zeroValue107
  t51 := Tryz.underlying145
  a51 := Tryz.isAgg145
  z51 := Tryz.sizeOf145
  v51 := Tryz.zeroValue145
  t146 := Tryz.underlying202
  a146 := Tryz.isAgg202
  z146 := Tryz.sizeOf202
  v146 := Tryz.zeroValue202
  g1 := by kernel_rfl }
open Go.RowKit Go.Lib in
/-- internal/stringslite.Index (what strings.Index calls) AT A substr OF ONE BYTE c: IT RETURNS 'Lib.indexByte s c'; the world is as it was. (LAID: no walk: one application.) -/
theorem Tryz.stringslite_Index_one (s : ByteArray) (c : UInt8) (w : World) :
    Calls Tryz.prog 99 #[.string s, .string ⟨#[c]⟩] w fun e w' => e = .returned (.int .i64 (Lib.indexByte s.data.toList c)) ∧ w' = w := Any.stringslite_Index_one Tryz.lays219 s c w
open Go.RowKit Go.Lib in
/-- internal/stringslite.Index (what strings.Index calls) AT A substr OF WHATEVER LENGTH: IT RETURNS 'Lib.index s substr'; the world is as it was. 'm': what internal/bytealg.MaxLen holds: whatever. (LAID: no walk: one application.) -/
theorem Tryz.stringslite_Index (s sub : ByteArray) (m : Int) (w : World) (hs : s.size < 4294967281) (hm : w.cell? ⟨0, 0, none⟩ = some (.int .i64 m)) :
    Calls Tryz.prog 99 #[.string s, .string sub] w fun e w' => e = .returned (.int .i64 (Lib.index s.data.toList sub.data.toList)) ∧ w' = w := Any.stringslite_Index Tryz.lays219 s sub m w hs hm
def Tryz.lays143_ren : Go.Shelf.Ren := ⟨fun | 143 => 100 | 219 => 99 | 217 => 140 | 225 => 141 | 224 => 142 | 267 => 143 | 266 => 161 | 314 => 162 | n => n, fun | 9 => 9 | 3 => 3 | 4 => 4 | 5 => 5 | 46 => 107 | 146 => 202 | 51 => 145 | n => n, fun | 1 => 0 | n => n⟩
theorem Tryz.lays143 : Go.Proofs.Lays.n143 Tryz.prog Tryz.lays143_ren := {
  mixed := by kernel_rfl
  f143 := Tryz.func100.trans (congrArg some (by kernel_rfl))
  f217 := Tryz.func140.trans (congrArg some (by kernel_rfl))
  f219 := Tryz.func99.trans (congrArg some (by kernel_rfl))
  f224 := Tryz.func142.trans (congrArg some (by kernel_rfl))
  f225 := Tryz.func141.trans (congrArg some (by kernel_rfl))
  f266 := Tryz.func161.trans (congrArg some (by kernel_rfl))
  f267 := Tryz.func143.trans (congrArg some (by kernel_rfl))
  f314 := Tryz.func162.trans (congrArg some (by kernel_rfl))
  t3 := Tryz.underlying3
  a3 := Tryz.isAgg3
  z3 := Tryz.sizeOf3
  v3 := Tryz.zeroValue3
  t4 := Tryz.underlying4
  a4 := Tryz.isAgg4
  z4 := Tryz.sizeOf4
  v4 := Tryz.zeroValue4
  t5 := Tryz.underlying5
  a5 := Tryz.isAgg5
  z5 := Tryz.sizeOf5
  v5 := Tryz.zeroValue5
  t9 := Tryz.underlying9
  a9 := Tryz.isAgg9
  z9 := Tryz.sizeOf9
  v9 := Tryz.zeroValue9
  t46 := Tryz.underlying107
  a46 := Tryz.isAgg107
  z46 := Tryz.sizeOf107
  v46 := Tryz.zeroValue107
  t51 := Tryz.underlying145
  a51 := Tryz.isAgg145
  z51 := Tryz.sizeOf145
  v51 := Tryz.zeroValue145
  t146 := Tryz.underlying202
  a146 := Tryz.isAgg202
  z146 := Tryz.sizeOf202
  v146 := Tryz.zeroValue202
  g1 := by kernel_rfl }
open Go.RowKit Go.Lib in
/-- strings.Index: "Index returns the index of the first instance of substr in s, or -1 if substr is not present in s.": AT A substr OF ONE BYTE c: IT RETURNS 'Lib.indexByte s c'; the world is as it was. (LAID: no walk: one application.) -/
theorem Tryz.strings_Index_one (s : ByteArray) (c : UInt8) (w : World) :
    Calls Tryz.prog 100 #[.string s, .string ⟨#[c]⟩] w fun e w' => e = .returned (.int .i64 (Lib.indexByte s.data.toList c)) ∧ w' = w := Any.strings_Index_one Tryz.lays143 s c w
open Go.RowKit Go.Lib in
/-- strings.Index: "Index returns the index of the first instance of substr in s, or -1 if substr is not present in s.": IT RETURNS 'Lib.index s substr'; the world is as it was. (LAID: no walk: one application.) -/
theorem Tryz.strings_Index (s sub : ByteArray) (m : Int) (w : World) (hs : s.size < 4294967281) (hm : w.cell? ⟨0, 0, none⟩ = some (.int .i64 m)) :
    Calls Tryz.prog 100 #[.string s, .string sub] w fun e w' => e = .returned (.int .i64 (Lib.index s.data.toList sub.data.toList)) ∧ w' = w := Any.strings_Index Tryz.lays143 s sub m w hs hm
def Tryz.lays144_ren : Go.Shelf.Ren := ⟨fun | 144 => 67 | 143 => 100 | 219 => 99 | 217 => 140 | 225 => 141 | 224 => 142 | 267 => 143 | 266 => 161 | 314 => 162 | n => n, fun | 9 => 9 | 4 => 4 | 3 => 3 | 5 => 5 | 46 => 107 | 146 => 202 | 51 => 145 | n => n, fun | 1 => 0 | n => n⟩
theorem Tryz.lays144 : Go.Proofs.Lays.n144 Tryz.prog Tryz.lays144_ren := {
  mixed := by kernel_rfl
  f143 := Tryz.func100.trans (congrArg some (by kernel_rfl))
  f144 := Tryz.func67.trans (congrArg some (by kernel_rfl))
  f217 := Tryz.func140.trans (congrArg some (by kernel_rfl))
  f219 := Tryz.func99.trans (congrArg some (by kernel_rfl))
  f224 := Tryz.func142.trans (congrArg some (by kernel_rfl))
  f225 := Tryz.func141.trans (congrArg some (by kernel_rfl))
  f266 := Tryz.func161.trans (congrArg some (by kernel_rfl))
  f267 := Tryz.func143.trans (congrArg some (by kernel_rfl))
  f314 := Tryz.func162.trans (congrArg some (by kernel_rfl))
  t3 := Tryz.underlying3
  a3 := Tryz.isAgg3
  z3 := Tryz.sizeOf3
  v3 := Tryz.zeroValue3
  t4 := Tryz.underlying4
  a4 := Tryz.isAgg4
  z4 := Tryz.sizeOf4
  v4 := Tryz.zeroValue4
  t5 := Tryz.underlying5
  a5 := Tryz.isAgg5
  z5 := Tryz.sizeOf5
  v5 := Tryz.zeroValue5
  t9 := Tryz.underlying9
  a9 := Tryz.isAgg9
  z9 := Tryz.sizeOf9
  v9 := Tryz.zeroValue9
  t46 := Tryz.underlying107
  a46 := Tryz.isAgg107
  z46 := Tryz.sizeOf107
  v46 := Tryz.zeroValue107
  t51 := Tryz.underlying145
  a51 := Tryz.isAgg145
  z51 := Tryz.sizeOf145
  v51 := Tryz.zeroValue145
  t146 := Tryz.underlying202
  a146 := Tryz.isAgg202
  z146 := Tryz.sizeOf202
  v146 := Tryz.zeroValue202
  g1 := by kernel_rfl }
open Go.RowKit Go.Lib in
/-- strings.Contains: "Contains reports whether substr is within s.": AT A substr OF ONE BYTE c: IT RETURNS 'decide (0 ≤ Lib.indexByte s c)'; the world is as it was. (LAID: no walk: one application.) -/
theorem Tryz.strings_Contains_one (s : ByteArray) (c : UInt8) (w : World) :
    Calls Tryz.prog 67 #[.string s, .string ⟨#[c]⟩] w fun e w' => e = .returned (.bool (decide (0 ≤ Lib.indexByte s.data.toList c))) ∧ w' = w := Any.strings_Contains_one Tryz.lays144 s c w
open Go.RowKit Go.Lib in
/-- strings.Contains: "Contains reports whether substr is within s.": IT RETURNS 'Lib.contains s substr'; the world is as it was. (LAID: no walk: one application.) -/
theorem Tryz.strings_Contains (s sub : ByteArray) (m : Int) (w : World) (hs : s.size < 4294967281) (hm : w.cell? ⟨0, 0, none⟩ = some (.int .i64 m)) :
    Calls Tryz.prog 67 #[.string s, .string sub] w fun e w' => e = .returned (.bool (Lib.contains s.data.toList sub.data.toList)) ∧ w' = w := Any.strings_Contains Tryz.lays144 s sub m w hs hm
def Tryz.lays220_ren : Go.Shelf.Ren := ⟨fun | 220 => 65 | 219 => 99 | 217 => 140 | 225 => 141 | 224 => 142 | 267 => 143 | 266 => 161 | 314 => 162 | n => n, fun | 9 => 9 | 4 => 4 | 3 => 3 | 5 => 5 | 46 => 107 | 146 => 202 | 51 => 145 | n => n, fun | 1 => 0 | n => n⟩
theorem Tryz.lays220 : Go.Proofs.Lays.n220 Tryz.prog Tryz.lays220_ren := {
  mixed := by kernel_rfl
  f217 := Tryz.func140.trans (congrArg some (by kernel_rfl))
  f219 := Tryz.func99.trans (congrArg some (by kernel_rfl))
  f220 := Tryz.func65.trans (congrArg some (by kernel_rfl))
  f224 := Tryz.func142.trans (congrArg some (by kernel_rfl))
  f225 := Tryz.func141.trans (congrArg some (by kernel_rfl))
  f266 := Tryz.func161.trans (congrArg some (by kernel_rfl))
  f267 := Tryz.func143.trans (congrArg some (by kernel_rfl))
  f314 := Tryz.func162.trans (congrArg some (by kernel_rfl))
  t3 := Tryz.underlying3
  a3 := Tryz.isAgg3
  z3 := Tryz.sizeOf3
  v3 := Tryz.zeroValue3
  t4 := Tryz.underlying4
  a4 := Tryz.isAgg4
  z4 := Tryz.sizeOf4
  v4 := Tryz.zeroValue4
  t5 := Tryz.underlying5
  a5 := Tryz.isAgg5
  z5 := Tryz.sizeOf5
  v5 := Tryz.zeroValue5
  t9 := Tryz.underlying9
  a9 := Tryz.isAgg9
  z9 := Tryz.sizeOf9
  v9 := Tryz.zeroValue9
  t46 := Tryz.underlying107
  a46 := Tryz.isAgg107
  z46 := Tryz.sizeOf107
  v46 := Tryz.zeroValue107
  t51 := Tryz.underlying145
  a51 := Tryz.isAgg145
  z51 := Tryz.sizeOf145
  v51 := Tryz.zeroValue145
  t146 := Tryz.underlying202
  a146 := Tryz.isAgg202
  z146 := Tryz.sizeOf202
  v146 := Tryz.zeroValue202
  g1 := by kernel_rfl }
open Go.RowKit Go.Lib in
/-- internal/stringslite.Cut (what strings.Cut calls): IT RETURNS 'Lib.cut s sep'; the world is as it was but for the count of draws. (LAID: no walk: one application.) -/
theorem Tryz.stringslite_Cut (s sep : ByteArray) (m : Int) (w : World) (hs : s.size < 4294967281) (hm : w.cell? ⟨0, 0, none⟩ = some (.int .i64 m)) :
    Calls Tryz.prog 65 #[.string s, .string sep] w fun e w' => e = .returned (.tuple #[.string ⟨(Lib.cut s.data.toList sep.data.toList).1.toArray⟩, .string ⟨(Lib.cut s.data.toList sep.data.toList).2.1.toArray⟩, .bool (Lib.cut s.data.toList sep.data.toList).2.2]) ∧ ∃ n, w' = w.drewN n := Any.stringslite_Cut Tryz.lays220 s sep m w hs hm
def Tryz.lays145_ren : Go.Shelf.Ren := ⟨fun | 145 => 49 | 220 => 65 | 219 => 99 | 217 => 140 | 225 => 141 | 224 => 142 | 267 => 143 | 266 => 161 | 314 => 162 | n => n, fun | 9 => 9 | 4 => 4 | 59 => 92 | 3 => 3 | 5 => 5 | 46 => 107 | 146 => 202 | 51 => 145 | n => n, fun | 1 => 0 | n => n⟩
theorem Tryz.lays145 : Go.Proofs.Lays.n145 Tryz.prog Tryz.lays145_ren := {
  mixed := by kernel_rfl
  f145 := Tryz.func49.trans (congrArg some (by kernel_rfl))
  f217 := Tryz.func140.trans (congrArg some (by kernel_rfl))
  f219 := Tryz.func99.trans (congrArg some (by kernel_rfl))
  f220 := Tryz.func65.trans (congrArg some (by kernel_rfl))
  f224 := Tryz.func142.trans (congrArg some (by kernel_rfl))
  f225 := Tryz.func141.trans (congrArg some (by kernel_rfl))
  f266 := Tryz.func161.trans (congrArg some (by kernel_rfl))
  f267 := Tryz.func143.trans (congrArg some (by kernel_rfl))
  f314 := Tryz.func162.trans (congrArg some (by kernel_rfl))
  t3 := Tryz.underlying3
  a3 := Tryz.isAgg3
  z3 := Tryz.sizeOf3
  v3 := Tryz.zeroValue3
  t4 := Tryz.underlying4
  a4 := Tryz.isAgg4
  z4 := Tryz.sizeOf4
  v4 := Tryz.zeroValue4
  t5 := Tryz.underlying5
  a5 := Tryz.isAgg5
  z5 := Tryz.sizeOf5
  v5 := Tryz.zeroValue5
  t9 := Tryz.underlying9
  a9 := Tryz.isAgg9
  z9 := Tryz.sizeOf9
  v9 := Tryz.zeroValue9
  t46 := Tryz.underlying107
  a46 := Tryz.isAgg107
  z46 := Tryz.sizeOf107
  v46 := Tryz.zeroValue107
  t51 := Tryz.underlying145
  a51 := Tryz.isAgg145
  z51 := Tryz.sizeOf145
  v51 := Tryz.zeroValue145
  t59 := Tryz.underlying92
  a59 := Tryz.isAgg92
  z59 := Tryz.sizeOf92
  v59 := Tryz.zeroValue92
  t146 := Tryz.underlying202
  a146 := Tryz.isAgg202
  z146 := Tryz.sizeOf202
  v146 := Tryz.zeroValue202
  g1 := by kernel_rfl }
open Go.RowKit Go.Lib in
/-- strings.Cut: "Cut slices s around the first instance of sep, returning the text before and after sep. The found result reports whether sep appears in s. If sep does not appear in s, cut returns s, "", false.": IT RETURNS 'Lib.cut s sep'; the world is as it was but for the count of draws. (LAID: no walk: one application.) -/
theorem Tryz.strings_Cut (s sep : ByteArray) (m : Int) (w : World) (hs : s.size < 4294967281) (hm : w.cell? ⟨0, 0, none⟩ = some (.int .i64 m)) :
    Calls Tryz.prog 49 #[.string s, .string sep] w fun e w' => e = .returned (.tuple #[.string ⟨(Lib.cut s.data.toList sep.data.toList).1.toArray⟩, .string ⟨(Lib.cut s.data.toList sep.data.toList).2.1.toArray⟩, .bool (Lib.cut s.data.toList sep.data.toList).2.2]) ∧ ∃ n, w' = w.drewN n := Any.strings_Cut Tryz.lays145 s sep m w hs hm
def Tryz.laysM219_ren : Go.Shelf.Ren := ⟨fun | 219 => 99 | 217 => 140 | 225 => 141 | 224 => 142 | 267 => 143 | 266 => 161 | 314 => 162 | n => n, fun | 9 => 9 | 3 => 3 | 4 => 4 | 5 => 5 | 46 => 107 | 146 => 202 | 51 => 145 | n => n, fun | 1 => 0 | n => n⟩
theorem Tryz.laysM219 : Go.Proofs.LaysM.n219 Tryz.prog Tryz.laysM219_ren := {
  mixed := by kernel_rfl
  f217 := Tryz.func140.trans (congrArg some (by kernel_rfl))
  f219 := Tryz.func99.trans (congrArg some (by kernel_rfl))
  f224 := Tryz.func142.trans (congrArg some (by kernel_rfl))
  f225 := Tryz.func141.trans (congrArg some (by kernel_rfl))
  f266 := Tryz.func161.trans (congrArg some (by kernel_rfl))
  f267 := Tryz.func143.trans (congrArg some (by kernel_rfl))
  f314 := Tryz.func162.trans (congrArg some (by kernel_rfl))
  t3 := Tryz.underlying3
  a3 := Tryz.isAgg3
  z3 := Tryz.sizeOf3
  v3 := Tryz.zeroValue3
  t4 := Tryz.underlying4
  a4 := Tryz.isAgg4
  z4 := Tryz.sizeOf4
  v4 := Tryz.zeroValue4
  t5 := Tryz.underlying5
  a5 := Tryz.isAgg5
  z5 := Tryz.sizeOf5
  v5 := Tryz.zeroValue5
  t9 := Tryz.underlying9
  a9 := Tryz.isAgg9
  z9 := Tryz.sizeOf9
  v9 := Tryz.zeroValue9
  t46 := Tryz.underlying107
  a46 := Tryz.isAgg107
  z46 := Tryz.sizeOf107
  v46 := Tryz.zeroValue107
  t51 := Tryz.underlying145
  a51 := Tryz.isAgg145
  z51 := Tryz.sizeOf145
  v51 := Tryz.zeroValue145
  t146 := Tryz.underlying202
  a146 := Tryz.isAgg202
  z146 := Tryz.sizeOf202
  v146 := Tryz.zeroValue202
  g1 := by kernel_rfl
  i3 := by kernel_rfl
  i4 := by kernel_rfl
  i5 := by kernel_rfl
  i9 := by kernel_rfl
  i46 := by kernel_rfl
  i51 := by kernel_rfl
  i146 := by kernel_rfl
  m1 := by kernel_rfl
  s1_3 := fun w h => Go.Proofs.cell_of_shapedOpen_int (zero := #[.int .i64 0]) (t := 3) h (of_decide_eq_true (by kernel_rfl)) (by kernel_rfl) rfl (by kernel_rfl) (by kernel_rfl) Tryz.underlying3 }
open Go.RowKit Go.Lib in
theorem Tryz.stringslite_Index_shaped (s sub : ByteArray) (w : World) (h : w.ShapedOpen Tryz.prog) (hs : s.size < 4294967281) :
    Calls Tryz.prog 99 #[.string s, .string sub] w fun e w' => e = .returned (.int .i64 (Lib.index s.data.toList sub.data.toList)) ∧ w' = w := Any.stringslite_Index_shaped Tryz.laysM219 s sub w h hs
def Tryz.laysM143_ren : Go.Shelf.Ren := ⟨fun | 143 => 100 | 219 => 99 | 217 => 140 | 225 => 141 | 224 => 142 | 267 => 143 | 266 => 161 | 314 => 162 | n => n, fun | 9 => 9 | 3 => 3 | 4 => 4 | 5 => 5 | 46 => 107 | 146 => 202 | 51 => 145 | n => n, fun | 1 => 0 | n => n⟩
theorem Tryz.laysM143 : Go.Proofs.LaysM.n143 Tryz.prog Tryz.laysM143_ren := {
  mixed := by kernel_rfl
  f143 := Tryz.func100.trans (congrArg some (by kernel_rfl))
  f217 := Tryz.func140.trans (congrArg some (by kernel_rfl))
  f219 := Tryz.func99.trans (congrArg some (by kernel_rfl))
  f224 := Tryz.func142.trans (congrArg some (by kernel_rfl))
  f225 := Tryz.func141.trans (congrArg some (by kernel_rfl))
  f266 := Tryz.func161.trans (congrArg some (by kernel_rfl))
  f267 := Tryz.func143.trans (congrArg some (by kernel_rfl))
  f314 := Tryz.func162.trans (congrArg some (by kernel_rfl))
  t3 := Tryz.underlying3
  a3 := Tryz.isAgg3
  z3 := Tryz.sizeOf3
  v3 := Tryz.zeroValue3
  t4 := Tryz.underlying4
  a4 := Tryz.isAgg4
  z4 := Tryz.sizeOf4
  v4 := Tryz.zeroValue4
  t5 := Tryz.underlying5
  a5 := Tryz.isAgg5
  z5 := Tryz.sizeOf5
  v5 := Tryz.zeroValue5
  t9 := Tryz.underlying9
  a9 := Tryz.isAgg9
  z9 := Tryz.sizeOf9
  v9 := Tryz.zeroValue9
  t46 := Tryz.underlying107
  a46 := Tryz.isAgg107
  z46 := Tryz.sizeOf107
  v46 := Tryz.zeroValue107
  t51 := Tryz.underlying145
  a51 := Tryz.isAgg145
  z51 := Tryz.sizeOf145
  v51 := Tryz.zeroValue145
  t146 := Tryz.underlying202
  a146 := Tryz.isAgg202
  z146 := Tryz.sizeOf202
  v146 := Tryz.zeroValue202
  g1 := by kernel_rfl
  i3 := by kernel_rfl
  i4 := by kernel_rfl
  i5 := by kernel_rfl
  i9 := by kernel_rfl
  i46 := by kernel_rfl
  i51 := by kernel_rfl
  i146 := by kernel_rfl
  m1 := by kernel_rfl
  s1_3 := fun w h => Go.Proofs.cell_of_shapedOpen_int (zero := #[.int .i64 0]) (t := 3) h (of_decide_eq_true (by kernel_rfl)) (by kernel_rfl) rfl (by kernel_rfl) (by kernel_rfl) Tryz.underlying3 }
open Go.RowKit Go.Lib in
theorem Tryz.strings_Index_shaped (s sub : ByteArray) (w : World) (h : w.ShapedOpen Tryz.prog) (hs : s.size < 4294967281) :
    Calls Tryz.prog 100 #[.string s, .string sub] w fun e w' => e = .returned (.int .i64 (Lib.index s.data.toList sub.data.toList)) ∧ w' = w := Any.strings_Index_shaped Tryz.laysM143 s sub w h hs
def Tryz.laysM144_ren : Go.Shelf.Ren := ⟨fun | 144 => 67 | 143 => 100 | 219 => 99 | 217 => 140 | 225 => 141 | 224 => 142 | 267 => 143 | 266 => 161 | 314 => 162 | n => n, fun | 9 => 9 | 4 => 4 | 3 => 3 | 5 => 5 | 46 => 107 | 146 => 202 | 51 => 145 | n => n, fun | 1 => 0 | n => n⟩
theorem Tryz.laysM144 : Go.Proofs.LaysM.n144 Tryz.prog Tryz.laysM144_ren := {
  mixed := by kernel_rfl
  f143 := Tryz.func100.trans (congrArg some (by kernel_rfl))
  f144 := Tryz.func67.trans (congrArg some (by kernel_rfl))
  f217 := Tryz.func140.trans (congrArg some (by kernel_rfl))
  f219 := Tryz.func99.trans (congrArg some (by kernel_rfl))
  f224 := Tryz.func142.trans (congrArg some (by kernel_rfl))
  f225 := Tryz.func141.trans (congrArg some (by kernel_rfl))
  f266 := Tryz.func161.trans (congrArg some (by kernel_rfl))
  f267 := Tryz.func143.trans (congrArg some (by kernel_rfl))
  f314 := Tryz.func162.trans (congrArg some (by kernel_rfl))
  t3 := Tryz.underlying3
  a3 := Tryz.isAgg3
  z3 := Tryz.sizeOf3
  v3 := Tryz.zeroValue3
  t4 := Tryz.underlying4
  a4 := Tryz.isAgg4
  z4 := Tryz.sizeOf4
  v4 := Tryz.zeroValue4
  t5 := Tryz.underlying5
  a5 := Tryz.isAgg5
  z5 := Tryz.sizeOf5
  v5 := Tryz.zeroValue5
  t9 := Tryz.underlying9
  a9 := Tryz.isAgg9
  z9 := Tryz.sizeOf9
  v9 := Tryz.zeroValue9
  t46 := Tryz.underlying107
  a46 := Tryz.isAgg107
  z46 := Tryz.sizeOf107
  v46 := Tryz.zeroValue107
  t51 := Tryz.underlying145
  a51 := Tryz.isAgg145
  z51 := Tryz.sizeOf145
  v51 := Tryz.zeroValue145
  t146 := Tryz.underlying202
  a146 := Tryz.isAgg202
  z146 := Tryz.sizeOf202
  v146 := Tryz.zeroValue202
  g1 := by kernel_rfl
  i3 := by kernel_rfl
  i4 := by kernel_rfl
  i5 := by kernel_rfl
  i9 := by kernel_rfl
  i46 := by kernel_rfl
  i51 := by kernel_rfl
  i146 := by kernel_rfl
  m1 := by kernel_rfl
  s1_3 := fun w h => Go.Proofs.cell_of_shapedOpen_int (zero := #[.int .i64 0]) (t := 3) h (of_decide_eq_true (by kernel_rfl)) (by kernel_rfl) rfl (by kernel_rfl) (by kernel_rfl) Tryz.underlying3 }
open Go.RowKit Go.Lib in
theorem Tryz.strings_Contains_shaped (s sub : ByteArray) (w : World) (h : w.ShapedOpen Tryz.prog) (hs : s.size < 4294967281) :
    Calls Tryz.prog 67 #[.string s, .string sub] w fun e w' => e = .returned (.bool (Lib.contains s.data.toList sub.data.toList)) ∧ w' = w := Any.strings_Contains_shaped Tryz.laysM144 s sub w h hs
def Tryz.laysM220_ren : Go.Shelf.Ren := ⟨fun | 220 => 65 | 219 => 99 | 217 => 140 | 225 => 141 | 224 => 142 | 267 => 143 | 266 => 161 | 314 => 162 | n => n, fun | 9 => 9 | 4 => 4 | 3 => 3 | 5 => 5 | 46 => 107 | 146 => 202 | 51 => 145 | n => n, fun | 1 => 0 | n => n⟩
theorem Tryz.laysM220 : Go.Proofs.LaysM.n220 Tryz.prog Tryz.laysM220_ren := {
  mixed := by kernel_rfl
  f217 := Tryz.func140.trans (congrArg some (by kernel_rfl))
  f219 := Tryz.func99.trans (congrArg some (by kernel_rfl))
  f220 := Tryz.func65.trans (congrArg some (by kernel_rfl))
  f224 := Tryz.func142.trans (congrArg some (by kernel_rfl))
  f225 := Tryz.func141.trans (congrArg some (by kernel_rfl))
  f266 := Tryz.func161.trans (congrArg some (by kernel_rfl))
  f267 := Tryz.func143.trans (congrArg some (by kernel_rfl))
  f314 := Tryz.func162.trans (congrArg some (by kernel_rfl))
  t3 := Tryz.underlying3
  a3 := Tryz.isAgg3
  z3 := Tryz.sizeOf3
  v3 := Tryz.zeroValue3
  t4 := Tryz.underlying4
  a4 := Tryz.isAgg4
  z4 := Tryz.sizeOf4
  v4 := Tryz.zeroValue4
  t5 := Tryz.underlying5
  a5 := Tryz.isAgg5
  z5 := Tryz.sizeOf5
  v5 := Tryz.zeroValue5
  t9 := Tryz.underlying9
  a9 := Tryz.isAgg9
  z9 := Tryz.sizeOf9
  v9 := Tryz.zeroValue9
  t46 := Tryz.underlying107
  a46 := Tryz.isAgg107
  z46 := Tryz.sizeOf107
  v46 := Tryz.zeroValue107
  t51 := Tryz.underlying145
  a51 := Tryz.isAgg145
  z51 := Tryz.sizeOf145
  v51 := Tryz.zeroValue145
  t146 := Tryz.underlying202
  a146 := Tryz.isAgg202
  z146 := Tryz.sizeOf202
  v146 := Tryz.zeroValue202
  g1 := by kernel_rfl
  i3 := by kernel_rfl
  i4 := by kernel_rfl
  i5 := by kernel_rfl
  i9 := by kernel_rfl
  i46 := by kernel_rfl
  i51 := by kernel_rfl
  i146 := by kernel_rfl
  m1 := by kernel_rfl
  s1_3 := fun w h => Go.Proofs.cell_of_shapedOpen_int (zero := #[.int .i64 0]) (t := 3) h (of_decide_eq_true (by kernel_rfl)) (by kernel_rfl) rfl (by kernel_rfl) (by kernel_rfl) Tryz.underlying3 }
open Go.RowKit Go.Lib in
theorem Tryz.stringslite_Cut_shaped (s sep : ByteArray) (w : World) (h : w.ShapedOpen Tryz.prog) (hs : s.size < 4294967281) :
    Calls Tryz.prog 65 #[.string s, .string sep] w fun e w' => e = .returned (.tuple #[.string ⟨(Lib.cut s.data.toList sep.data.toList).1.toArray⟩, .string ⟨(Lib.cut s.data.toList sep.data.toList).2.1.toArray⟩, .bool (Lib.cut s.data.toList sep.data.toList).2.2]) ∧ ∃ n, w' = w.drewN n := Any.stringslite_Cut_shaped Tryz.laysM220 s sep w h hs
def Tryz.laysM145_ren : Go.Shelf.Ren := ⟨fun | 145 => 49 | 220 => 65 | 219 => 99 | 217 => 140 | 225 => 141 | 224 => 142 | 267 => 143 | 266 => 161 | 314 => 162 | n => n, fun | 9 => 9 | 4 => 4 | 59 => 92 | 3 => 3 | 5 => 5 | 46 => 107 | 146 => 202 | 51 => 145 | n => n, fun | 1 => 0 | n => n⟩
theorem Tryz.laysM145 : Go.Proofs.LaysM.n145 Tryz.prog Tryz.laysM145_ren := {
  mixed := by kernel_rfl
  f145 := Tryz.func49.trans (congrArg some (by kernel_rfl))
  f217 := Tryz.func140.trans (congrArg some (by kernel_rfl))
  f219 := Tryz.func99.trans (congrArg some (by kernel_rfl))
  f220 := Tryz.func65.trans (congrArg some (by kernel_rfl))
  f224 := Tryz.func142.trans (congrArg some (by kernel_rfl))
  f225 := Tryz.func141.trans (congrArg some (by kernel_rfl))
  f266 := Tryz.func161.trans (congrArg some (by kernel_rfl))
  f267 := Tryz.func143.trans (congrArg some (by kernel_rfl))
  f314 := Tryz.func162.trans (congrArg some (by kernel_rfl))
  t3 := Tryz.underlying3
  a3 := Tryz.isAgg3
  z3 := Tryz.sizeOf3
  v3 := Tryz.zeroValue3
  t4 := Tryz.underlying4
  a4 := Tryz.isAgg4
  z4 := Tryz.sizeOf4
  v4 := Tryz.zeroValue4
  t5 := Tryz.underlying5
  a5 := Tryz.isAgg5
  z5 := Tryz.sizeOf5
  v5 := Tryz.zeroValue5
  t9 := Tryz.underlying9
  a9 := Tryz.isAgg9
  z9 := Tryz.sizeOf9
  v9 := Tryz.zeroValue9
  t46 := Tryz.underlying107
  a46 := Tryz.isAgg107
  z46 := Tryz.sizeOf107
  v46 := Tryz.zeroValue107
  t51 := Tryz.underlying145
  a51 := Tryz.isAgg145
  z51 := Tryz.sizeOf145
  v51 := Tryz.zeroValue145
  t59 := Tryz.underlying92
  a59 := Tryz.isAgg92
  z59 := Tryz.sizeOf92
  v59 := Tryz.zeroValue92
  t146 := Tryz.underlying202
  a146 := Tryz.isAgg202
  z146 := Tryz.sizeOf202
  v146 := Tryz.zeroValue202
  g1 := by kernel_rfl
  i3 := by kernel_rfl
  i4 := by kernel_rfl
  i5 := by kernel_rfl
  i9 := by kernel_rfl
  i46 := by kernel_rfl
  i51 := by kernel_rfl
  i59 := by kernel_rfl
  i146 := by kernel_rfl
  m1 := by kernel_rfl
  s1_3 := fun w h => Go.Proofs.cell_of_shapedOpen_int (zero := #[.int .i64 0]) (t := 3) h (of_decide_eq_true (by kernel_rfl)) (by kernel_rfl) rfl (by kernel_rfl) (by kernel_rfl) Tryz.underlying3 }
open Go.RowKit Go.Lib in
theorem Tryz.strings_Cut_shaped (s sep : ByteArray) (w : World) (h : w.ShapedOpen Tryz.prog) (hs : s.size < 4294967281) :
    Calls Tryz.prog 49 #[.string s, .string sep] w fun e w' => e = .returned (.tuple #[.string ⟨(Lib.cut s.data.toList sep.data.toList).1.toArray⟩, .string ⟨(Lib.cut s.data.toList sep.data.toList).2.1.toArray⟩, .bool (Lib.cut s.data.toList sep.data.toList).2.2]) ∧ ∃ n, w' = w.drewN n := Any.strings_Cut_shaped Tryz.laysM145 s sep w h hs
def Tryz.lays206_ren : Go.Shelf.Ren := ⟨fun | 206 => 98 | n => n, fun | 9 => 9 | 4 => 4 | 3 => 3 | n => n, fun | n => n⟩
theorem Tryz.lays206 : Go.Proofs.Lays.n206 Tryz.prog Tryz.lays206_ren := {
  mixed := by kernel_rfl
  f206 := Tryz.func98.trans (congrArg some (by kernel_rfl))
  t3 := Tryz.underlying3
  a3 := Tryz.isAgg3
  z3 := Tryz.sizeOf3
  v3 := Tryz.zeroValue3
  t4 := Tryz.underlying4
  a4 := Tryz.isAgg4
  z4 := Tryz.sizeOf4
  v4 := Tryz.zeroValue4
  t9 := Tryz.underlying9
  a9 := Tryz.isAgg9
  z9 := Tryz.sizeOf9
  v9 := Tryz.zeroValue9 }
open Go.RowKit Go.Lib in
/-- internal/stringslite.HasPrefix (what strings.HasPrefix calls). (LAID: no walk: one application.) -/
theorem Tryz.stringslite_HasPrefix (s p : ByteArray) (w : World) :
    Calls Tryz.prog 98 #[.string s, .string p] w fun e w' => e = .returned (.bool (Lib.hasPrefix s.data.toList p.data.toList)) ∧ w' = w := Any.stringslite_HasPrefix Tryz.lays206 s p w
def Tryz.lays99_ren : Go.Shelf.Ren := ⟨fun | 99 => 130 | 206 => 98 | n => n, fun | 9 => 9 | 4 => 4 | 3 => 3 | n => n, fun | n => n⟩
theorem Tryz.lays99 : Go.Proofs.Lays.n99 Tryz.prog Tryz.lays99_ren := {
  mixed := by kernel_rfl
  f99 := Tryz.func130.trans (congrArg some (by kernel_rfl))
  f206 := Tryz.func98.trans (congrArg some (by kernel_rfl))
  t3 := Tryz.underlying3
  a3 := Tryz.isAgg3
  z3 := Tryz.sizeOf3
  v3 := Tryz.zeroValue3
  t4 := Tryz.underlying4
  a4 := Tryz.isAgg4
  z4 := Tryz.sizeOf4
  v4 := Tryz.zeroValue4
  t9 := Tryz.underlying9
  a9 := Tryz.isAgg9
  z9 := Tryz.sizeOf9
  v9 := Tryz.zeroValue9 }
open Go.RowKit Go.Lib in
/-- strings.HasPrefix: "HasPrefix reports whether the string s begins with prefix.": IT RETURNS 'Lib.hasPrefix s prefix'; the world is as it was. (LAID: no walk: one application.) -/
theorem Tryz.strings_HasPrefix (s p : ByteArray) (w : World) :
    Calls Tryz.prog 130 #[.string s, .string p] w fun e w' => e = .returned (.bool (Lib.hasPrefix s.data.toList p.data.toList)) ∧ w' = w := Any.strings_HasPrefix Tryz.lays99 s p w
def Tryz.lays152_ren : Go.Shelf.Ren := ⟨fun | 152 => 172 | 137 => 184 | 119 => 185 | 224 => 142 | 225 => 141 | 217 => 140 | 266 => 161 | n => n, fun | 9 => 9 | 21 => 21 | 3 => 3 | 4 => 4 | 5 => 5 | 0 => 0 | 46 => 107 | n => n, fun | n => n⟩
theorem Tryz.lays152 : Go.Proofs.Lays.n152 Tryz.prog Tryz.lays152_ren := {
  mixed := by kernel_rfl
  f119 := Tryz.func185.trans (congrArg some (by kernel_rfl))
  f137 := Tryz.func184.trans (congrArg some (by kernel_rfl))
  f152 := Tryz.func172.trans (congrArg some (by kernel_rfl))
  f217 := Tryz.func140.trans (congrArg some (by kernel_rfl))
  f224 := Tryz.func142.trans (congrArg some (by kernel_rfl))
  f225 := Tryz.func141.trans (congrArg some (by kernel_rfl))
  f266 := Tryz.func161.trans (congrArg some (by kernel_rfl))
  t0 := Tryz.underlying0
  a0 := Tryz.isAgg0
  z0 := Tryz.sizeOf0
  v0 := Tryz.zeroValue0
  t3 := Tryz.underlying3
  a3 := Tryz.isAgg3
  z3 := Tryz.sizeOf3
  v3 := Tryz.zeroValue3
  t4 := Tryz.underlying4
  a4 := Tryz.isAgg4
  z4 := Tryz.sizeOf4
  v4 := Tryz.zeroValue4
  t5 := Tryz.underlying5
  a5 := Tryz.isAgg5
  z5 := Tryz.sizeOf5
  v5 := Tryz.zeroValue5
  t9 := Tryz.underlying9
  a9 := Tryz.isAgg9
  z9 := Tryz.sizeOf9
  v9 := Tryz.zeroValue9
  t21 := Tryz.underlying21
  a21 := Tryz.isAgg21
  z21 := Tryz.sizeOf21
  v21 := Tryz.zeroValue21
  t46 := Tryz.underlying107
  a46 := Tryz.isAgg107
  z46 := Tryz.sizeOf107
  v46 := Tryz.zeroValue107 }
open Go.RowKit Go.Lib in
theorem Tryz.strings_IndexRune_ascii (s : ByteArray) (r : Int) (w : World) (h0 : 0 ≤ r) (h1 : r < 128) :
    Calls Tryz.prog 172 #[.string s, .int .i32 r] w fun e w' => e = .returned (.int .i64 (Lib.indexByte s.data.toList r.toNat.toUInt8)) ∧ w' = w := Any.strings_IndexRune_ascii Tryz.lays152 s r w h0 h1
def Tryz.lays151_ren : Go.Shelf.Ren := ⟨fun | 151 => 151 | 152 => 172 | 137 => 184 | 119 => 185 | 224 => 142 | 225 => 141 | 217 => 140 | 266 => 161 | n => n, fun | 9 => 9 | 21 => 21 | 4 => 4 | 3 => 3 | 5 => 5 | 0 => 0 | 46 => 107 | n => n, fun | n => n⟩
theorem Tryz.lays151 : Go.Proofs.Lays.n151 Tryz.prog Tryz.lays151_ren := {
  mixed := by kernel_rfl
  f119 := Tryz.func185.trans (congrArg some (by kernel_rfl))
  f137 := Tryz.func184.trans (congrArg some (by kernel_rfl))
  f151 := Tryz.func151.trans (congrArg some (by kernel_rfl))
  f152 := Tryz.func172.trans (congrArg some (by kernel_rfl))
  f217 := Tryz.func140.trans (congrArg some (by kernel_rfl))
  f224 := Tryz.func142.trans (congrArg some (by kernel_rfl))
  f225 := Tryz.func141.trans (congrArg some (by kernel_rfl))
  f266 := Tryz.func161.trans (congrArg some (by kernel_rfl))
  t0 := Tryz.underlying0
  a0 := Tryz.isAgg0
  z0 := Tryz.sizeOf0
  v0 := Tryz.zeroValue0
  t3 := Tryz.underlying3
  a3 := Tryz.isAgg3
  z3 := Tryz.sizeOf3
  v3 := Tryz.zeroValue3
  t4 := Tryz.underlying4
  a4 := Tryz.isAgg4
  z4 := Tryz.sizeOf4
  v4 := Tryz.zeroValue4
  t5 := Tryz.underlying5
  a5 := Tryz.isAgg5
  z5 := Tryz.sizeOf5
  v5 := Tryz.zeroValue5
  t9 := Tryz.underlying9
  a9 := Tryz.isAgg9
  z9 := Tryz.sizeOf9
  v9 := Tryz.zeroValue9
  t21 := Tryz.underlying21
  a21 := Tryz.isAgg21
  z21 := Tryz.sizeOf21
  v21 := Tryz.zeroValue21
  t46 := Tryz.underlying107
  a46 := Tryz.isAgg107
  z46 := Tryz.sizeOf107
  v46 := Tryz.zeroValue107 }
open Go.RowKit Go.Lib in
theorem Tryz.strings_ContainsRune_ascii (s : ByteArray) (r : Int) (w : World) (h0 : 0 ≤ r) (h1 : r < 128) :
    Calls Tryz.prog 151 #[.string s, .int .i32 r] w fun e w' => e = .returned (.bool (decide (0 ≤ Lib.indexByte s.data.toList r.toNat.toUInt8))) ∧ w' = w := Any.strings_ContainsRune_ascii Tryz.lays151 s r w h0 h1
def Tryz.laysNm216_ren : Go.Shelf.Ren := ⟨fun | 16 => 31 | n => n, fun | 24 => 30 | 9 => 9 | 4 => 4 | n => n, fun | n => n⟩
theorem Tryz.laysNm216 : Go.Proofs.Lays2.n16 Tryz.prog Tryz.laysNm216_ren := {
  mixed := by kernel_rfl
  f16 := Tryz.func31.trans (congrArg some (by kernel_rfl))
  t4 := Tryz.underlying4
  a4 := Tryz.isAgg4
  z4 := Tryz.sizeOf4
  v4 := Tryz.zeroValue4
  t9 := Tryz.underlying9
  a9 := Tryz.isAgg9
  z9 := Tryz.sizeOf9
  v9 := Tryz.zeroValue9
  t24 := Tryz.underlying30
  a24 := Tryz.isAgg30
  z24 := Tryz.sizeOf30
  v24 := Tryz.zeroValue30
  i9 := by kernel_rfl }
open Go.RowKit Go.Lib in
/-- slices.Clone at []string: "Clone returns a copy of the slice. The elements are copied using assignment, so this is a shallow clone. The result may have additional unused capacity. The result preserves the nilness of s.": OF A SLICE THAT IS NOT nil IT RETURNS A SLICE THAT IS NOT nil, OF THE SAME ELEMENTS, IN MEMORY OF THE CALL's OWN: in the how-to's words (6f): 'w'.ownsRow B e 1 v' n cells': v' begins at the head of a row among the blocks from B on (B: the heap's size at the call), not frozen, whose first cells are the elements · 'Below B w w'': below B all is as it was. The capacity is whatever the run-time gives. 'zs': what the cells behind the slice's address hold; 'zs.take n': its elements. (LAID: no walk: one application.) -/
theorem Tryz.slices_Clone_string (b off n c : Nat) (zs : List ByteArray) (w : World) (hz : n ≤ zs.length) (hbig : n * 16 ≤ 140737488355328) (hc : ∀ j, j < zs.length → w.cell? ⟨b, off + j, none⟩ = some (.string (zs.getD j ByteArray.empty))) :
    Calls Tryz.prog 31 #[.slice (some ⟨b, off, none⟩) n c] w fun e w' => ∃ v', e = .returned v' ∧ w'.ownsRow w.heap.size 9 1 v' n ((zs.take n).map (Value.string)) ∧ v' ≠ .slice none 0 0 ∧ Below w.heap.size w w' := Any.slices_Clone_string Tryz.laysNm216 b off n c zs w hz hbig hc
open Go.RowKit Go.Lib in
/-- The same at nil: nil comes back; the world is as it was. (LAID: no walk: one application.) -/
theorem Tryz.slices_Clone_string_nil (n c : Nat) (w : World) :
    Calls Tryz.prog 31 #[.slice none n c] w fun e w' => e = .returned (.slice none 0 0) ∧ w' = w := Any.slices_Clone_string_nil Tryz.laysNm216 n c w
open Go.RowKit Go.Lib in
/-- The same at a slice of length 0 that is not nil, WHATEVER ITS ADDRESS (no cell is asked for): a slice that is not nil and owns nothing comes back. (LAID: no walk: one application.) -/
theorem Tryz.slices_Clone_string_zero (a : Addr) (c : Nat) (w : World) :
    Calls Tryz.prog 31 #[.slice (some a) 0 c] w fun e w' => ∃ v', e = .returned v' ∧ w'.ownsRow w.heap.size 9 1 v' 0 [] ∧ v' ≠ .slice none 0 0 ∧ Below w.heap.size w w' := Any.slices_Clone_string_zero Tryz.laysNm216 a c w
def Tryz.laysNm237_ren : Go.Shelf.Ren := ⟨fun | 37 => 147 | n => n, fun | 3 => 3 | 4 => 4 | n => n, fun | n => n⟩
theorem Tryz.laysNm237 : Go.Proofs.Lays2.n37 Tryz.prog Tryz.laysNm237_ren := {
  mixed := by kernel_rfl
  f37 := Tryz.func147.trans (congrArg some (by kernel_rfl))
  t3 := Tryz.underlying3
  a3 := Tryz.isAgg3
  z3 := Tryz.sizeOf3
  v3 := Tryz.zeroValue3
  t4 := Tryz.underlying4
  a4 := Tryz.isAgg4
  z4 := Tryz.sizeOf4
  v4 := Tryz.zeroValue4 }
open Go.RowKit Go.Lib in
/-- cmp.isNaN[int]: 'x != x': false. (LAID: no walk: one application.) -/
theorem Tryz.cmp_isNaN_int2 (x : Int) (w : World) :
    Calls Tryz.prog 147 #[.int .i64 x] w fun e w' => e = .returned (.bool false) ∧ w' = w := Any.cmp_isNaN_int2 Tryz.laysNm237 x w
def Tryz.laysNm224_ren : Go.Shelf.Ren := ⟨fun | 24 => 30 | n => n, fun | 24 => 30 | 9 => 9 | 3 => 3 | 4 => 4 | 0 => 0 | n => n, fun | n => n⟩
theorem Tryz.laysNm224 : Go.Proofs.Lays2.n24 Tryz.prog Tryz.laysNm224_ren := {
  mixed := by kernel_rfl
  f24 := Tryz.func30.trans (congrArg some (by kernel_rfl))
  t0 := Tryz.underlying0
  a0 := Tryz.isAgg0
  z0 := Tryz.sizeOf0
  v0 := Tryz.zeroValue0
  t3 := Tryz.underlying3
  a3 := Tryz.isAgg3
  z3 := Tryz.sizeOf3
  v3 := Tryz.zeroValue3
  t4 := Tryz.underlying4
  a4 := Tryz.isAgg4
  z4 := Tryz.sizeOf4
  v4 := Tryz.zeroValue4
  t9 := Tryz.underlying9
  a9 := Tryz.isAgg9
  z9 := Tryz.sizeOf9
  v9 := Tryz.zeroValue9
  t24 := Tryz.underlying30
  a24 := Tryz.isAgg30
  z24 := Tryz.sizeOf30
  v24 := Tryz.zeroValue30
  i9 := by kernel_rfl }
open Go.RowKit Go.Lib Go.Sort in
/-- slices.Delete at []string, over an array. (LAID: no walk: one application.) -/
theorem Tryz.slices_Delete_string_arr (blk off cap i j : Nat) (d : Array (List UInt8)) (w : World) (hH : Holds encStr w blk off d) (hcap : d.size ≤ cap) (hm : cap ≤ 9223372036854775807) (hij : i ≤ j) (hj : j ≤ d.size) :
    Calls Tryz.prog 30 #[.slice (some ⟨blk, off, none⟩) d.size cap, .int .i64 i, .int .i64 j] w fun e w' => e = .returned (.slice (some ⟨blk, off, none⟩) (d.size - (j - i)) cap) ∧ ∃ q, w' = putRow encStr (Sort.ahead w q) blk off (d.toList.take i ++ d.toList.drop j ++ List.replicate (j - i) []).toArray := Any.slices_Delete_string_arr Tryz.laysNm224 blk off cap i j d w hH hcap hm hij hj
open Go.RowKit Go.Lib Go.Sort in
/-- slices.Delete at []string: "Delete modifies s in place by removing the elements s[i:j], and returns the modified slice. Delete panics if j > len(s) or s[i:j] is not a valid slice of s. Delete is O(len(s)-i), so if many items must be deleted, it is better to make a single call deleting them all together than to delete one at a time. Delete zeroes the elements s[len(s)-(j-i):len(s)]. If the result is empty, it has the same nilness as s.": FOR i ≤ j ≤ len(s) IT RETURNS THE SLICE CUT TO len(s) - (j - i) ELEMENTS; ITS CELLS HOLD what stood ahead of i, what stood from j on, then j - i zero values; all else is as it was, but for the count of draws. IN THE WORDS OF slices.Sort's CONTRACT ('Holds', 'putRow'). It asks 'zs.length ≤ cap ≤ 2^63 - 1' (every slice's). (Outside i ≤ j ≤ len(s) it panics: no contract here.) (LAID: no walk: one application.) -/
theorem Tryz.slices_Delete_string (blk off cap i j : Nat) (zs : List (List UInt8)) (w : World) (hH : Holds encStr w blk off zs.toArray) (hcap : zs.length ≤ cap) (hm : cap ≤ 9223372036854775807) (hij : i ≤ j) (hj : j ≤ zs.length) :
    Calls Tryz.prog 30 #[.slice (some ⟨blk, off, none⟩) zs.length cap, .int .i64 i, .int .i64 j] w fun e w' => e = .returned (.slice (some ⟨blk, off, none⟩) (zs.length - (j - i)) cap) ∧ ∃ q, w' = putRow encStr (Sort.ahead w q) blk off (zs.take i ++ zs.drop j ++ List.replicate (j - i) []).toArray := Any.slices_Delete_string Tryz.laysNm224 blk off cap i j zs w hH hcap hm hij hj
open Go.RowKit Go.Lib Go.Sort in
/-- slices.Delete at []string, of an argument, for i ≤ j ≤ n. (LAID: no walk: one application.) -/
theorem Tryz.slices_Delete_string_cells (b off n c i j : Nat) (Sx : Nat → ByteArray) (w : World) (hcap : n ≤ c) (hm : c ≤ 9223372036854775807) (hij : i ≤ j) (hj : j ≤ n) (hc : ∀ i, i < n → w.cell? ⟨b, off + i, none⟩ = some (.string (Sx i))) (hf : ∀ j, j < n → w.frozen? ⟨b, off + j, none⟩ = false) :
    Calls Tryz.prog 30 #[.slice (some ⟨b, off, none⟩) n c, .int .i64 i, .int .i64 j] w fun e w' => e = .returned (.slice (some ⟨b, off, none⟩) (n - (j - i)) c) ∧ ∃ q, w' = (w.drewN q).setCells b off (((Lib.strsOf Sx n).take i ++ (Lib.strsOf Sx n).drop j ++ List.replicate (j - i) []).map encStr) := Any.slices_Delete_string_cells Tryz.laysNm224 b off n c i j Sx w hcap hm hij hj hc hf
open Go.RowKit Go.Lib in
/-- slices.Delete at []string of no element ('Delete(s, 0, 0)'): s comes back; the world is as it was. (LAID: no walk: one application.) -/
theorem Tryz.slices_Delete_string_empty (a : Option Addr) (c : Nat) (w : World) :
    Calls Tryz.prog 30 #[.slice a 0 c, .int .i64 0, .int .i64 0] w fun e w' => e = .returned (.slice a 0 c) ∧ w' = w := Any.slices_Delete_string_empty Tryz.laysNm224 a c w
def Tryz.laysSlE041_f31_ren : Go.Shelf.Ren := ⟨fun | 41 => 31 | n => n, fun | 22 => 30 | 23 => 9 | 4 => 4 | n => n, fun | n => n⟩
theorem Tryz.laysSlE041_f31 : Go.Proofs.SlLaysE0.n41 Tryz.prog Tryz.laysSlE041_f31_ren := {
  mixed := by kernel_rfl
  f41 := ⟨Tryz.f31.name, by decide, Tryz.func31.trans (congrArg some (by kernel_rfl))⟩
  t4 := Tryz.underlying4
  a4 := Tryz.isAgg4
  z4 := Tryz.sizeOf4
  v4 := Tryz.zeroValue4
  t22 := Tryz.underlying30
  a22 := Tryz.isAgg30
  z22 := Tryz.sizeOf30
  v22 := Tryz.zeroValue30 }
open Go.RowKit Go.Lib in
/-- slices.Clone: "Clone returns a copy of the slice. The elements are copied using assignment, so this is a shallow clone. The result may have additional unused capacity. The result preserves the nilness of s.": OF A SLICE THAT IS NOT nil IT RETURNS A SLICE THAT IS NOT nil, OF THE SAME CELLS, IN MEMORY OF THE CALL's OWN ('ownsRow': the how-to's 6f); below the heap's size at the call all is as it was. (LAID AT THE INSTANCE 'slices.Clone[[]string,string]': no walk: one application.) -/
theorem Tryz.slices_Clone (i0 : TypeInfo) (z : Value) (size bytes : Nat) (hi : Tryz.prog.info? 9 = some i0) (hz0 : i0.zero = some z) (hz1 : i0.size = size) (hz2 : i0.bytes = bytes) (hzs : z.cells.size = size) (hsz : 0 < size) (z23 : ∀ w, (Go.sizeOf 9).run Tryz.prog w = .ok size w) (b off n c : Nat) (news : List Value) (w : World) (hl : news.length = n * size) (hn : n ≤ maxLen) (hbig : n * bytes ≤ 140737488355328) (hc : ∀ j u, news[j]? = some u → w.cell? ⟨b, off + j, none⟩ = some u) (h1 : ∀ u ∈ news, u.oneCell' = true) :
    Calls Tryz.prog 31 #[.slice (some ⟨b, off, none⟩) n c] w fun e w' => ∃ v', e = .returned v' ∧ w'.ownsRow w.heap.size 9 size v' n news ∧ v' ≠ .slice none 0 0 ∧ Below w.heap.size w w' := AnyE.slices_Clone Tryz.laysSlE041_f31 i0 z size bytes hi hz0 hz1 hz2 hzs hsz z23 b off n c news w hl hn hbig hc h1
open Go.RowKit Go.Lib in
/-- The same at nil: nil comes back; the world is as it was; nothing is asked of the element's type. (LAID AT THE INSTANCE 'slices.Clone[[]string,string]': no walk: one application.) -/
theorem Tryz.slices_Clone_nil (n c : Nat) (w : World) :
    Calls Tryz.prog 31 #[.slice none n c] w fun e w' => e = .returned (.slice none 0 0) ∧ w' = w := AnyE.slices_Clone_nil Tryz.laysSlE041_f31 n c w
end Go.Proofs

namespace Go.Proofs.YtmjclmmiljlahaaGreat
open Go.RowKit

theorem decode_width (s : ByteArray) (i : Nat) : 1 ≤ (Utf8.decode s i).2 := by
  unfold Utf8.decode
  dsimp only
  repeat' split
  all_goals simp

theorem run_next_any {P : Program} (w : World) (s : ByteArray) (pos : Nat) (ty : TypeId) (h : pos < s.size) :
    (Instr.next (.pointer (some ⟨w.heap.size, 0, none⟩)) true ty).run P (w.iter s pos) =
      .ok (.tuple #[.bool true, .int .i64 pos, .int .i32 ((Utf8.decode s pos).1 : Nat)]) (w.iter s (pos + (Utf8.decode s pos).2)) := by
  simp only [Instr.next, getObj, setObj, Sem.run_bind, Sem.run, World.iter_heap, Result.andThen, h, if_true, World.iter_set]
  simp [goInt, Sem.run, World.iter_heap, World.iter_set]

def iterPos (w : World) (b : Nat) : Nat := match w.heap[b]? with | some (.stringIter _ p) => p | _ => 0
theorem iterPos_iter (w : World) (s : ByteArray) (pos : Nat) : iterPos (w.iter s pos) w.heap.size = pos := by
  unfold iterPos; rw [World.iter_heap]

/-- p holds of each rune from a place on. -/
def allR (p : Int → Bool) (s : ByteArray) : Nat → Nat → Bool
  | 0, _ => true
  | f + 1, pos => if pos < s.size then p (Utf8.decode s pos).1 && allR p s f (pos + (Utf8.decode s pos).2) else true

theorem allR_end {p : Int → Bool} {s : ByteArray} {f pos : Nat} (h : s.size ≤ pos) : allR p s f pos = true := by
  cases f <;> simp [allR]; omega
theorem allR_step {p : Int → Bool} {s : ByteArray} {f pos : Nat} (h : pos < s.size) (hf : s.size - pos ≤ f) :
    ∃ f', s.size - (pos + (Utf8.decode s pos).2) ≤ f' ∧ allR p s f pos = (p (Utf8.decode s pos).1 && allR p s f' (pos + (Utf8.decode s pos).2)) := by
  obtain ⟨f', rfl⟩ : ∃ f', f = f' + 1 := ⟨f - 1, by omega⟩
  have := decode_width s pos
  exact ⟨f', by omega, by simp [allR, h]⟩

def allB (p : Int → Bool) (s : ByteArray) (least most : Int) : Bool := !(decide ((s.size : Int) < least) || decide (most < (s.size : Int))) && allR p s s.size 0

theorem small_any (c : Int) (w : World) :
    Calls Tryz.prog 52 #[.int .i32 c] w fun e w' => e = .returned (.bool (decide (97 ≤ c) && decide (c ≤ 122) || decide (48 ≤ c) && decide (c ≤ 57))) ∧ w = w' := by
  by_cases h1 : 97 ≤ c <;> by_cases h2 : c ≤ 122 <;> by_cases h3 : 48 ≤ c <;> by_cases h4 : c ≤ 57
  all_goals
    go_enter Tryz.func52, Tryz.ntmps52
    go_wp2
    go_ret
    exact ⟨ret_bool (by simp [*]), rfl⟩

def smallB (c : Int) : Bool := decide (97 ≤ c) && decide (c ≤ 122) || decide (48 ≤ c) && decide (c ≤ 57)
def plainB (c : Int) : Bool := smallB c || decide (65 ≤ c) && decide (c ≤ 90) || c == 95

theorem small_b (c : Int) (w : World) :
    Calls Tryz.prog 52 #[.int .i32 c] w fun e w' => e = .returned (.bool (smallB c)) ∧ w = w' := small_any c w

theorem plain_b (c : Int) (w : World) :
    Calls Tryz.prog 39 #[.int .i32 c] w fun e w' => e = .returned (.bool (plainB c)) ∧ w = w' := by
  cases h0 : smallB c <;> by_cases h1 : 65 ≤ c <;> by_cases h2 : c ≤ 90 <;> cases h3 : c == 95
  all_goals
    have H0 := Lib.hid h0
    clear h0
    go_enter Tryz.func39, Tryz.ntmps39
    go_wp2_with (go_at_call 52; refine (small_b _ _).mono ?_; rintro e w' ⟨rfl, rfl⟩; rw [H0.out])
    all_goals (go_ret; exact ⟨ret_bool (by simp [plainB, H0.out, *]), rfl⟩)

theorem roomC_b (c : Int) (w : World) :
    Calls Tryz.prog 38 #[.int .i32 c] w fun e w' => e = .returned (.bool (plainB c || c == 45)) ∧ w = w' := by
  cases h0 : plainB c <;> cases h3 : c == 45
  all_goals
    have H0 := Lib.hid h0
    clear h0
    go_enter Tryz.func38, Tryz.ntmps38
    go_wp2_with (go_at_call 39; refine (plain_b _ _).mono ?_; rintro e w' ⟨rfl, rfl⟩; rw [H0.out])
    all_goals (go_ret; exact ⟨ret_bool (by simp [H0.out, *]), rfl⟩)

theorem serverC_b (c : Int) (w : World) :
    Calls Tryz.prog 66 #[.int .i32 c] w fun e w' => e = .returned (.bool (smallB c || c == 46 || c == 45)) ∧ w = w' := by
  cases h0 : smallB c <;> cases h3 : c == 45 <;> cases h4 : c == 46
  all_goals
    have H0 := Lib.hid h0
    clear h0
    go_enter Tryz.func66, Tryz.ntmps66
    go_wp2_with (go_at_call 52; refine (small_b _ _).mono ?_; rintro e w' ⟨rfl, rfl⟩; rw [H0.out])
    all_goals (go_ret; exact ⟨ret_bool (by simp [H0.out, *]), rfl⟩)

def userCB (c : Int) : Bool := smallB c || decide (0 ≤ Lib.indexByte [46, 95, 61, 45, 47] c.toNat.toUInt8)
theorem userC_b (c : Int) (w : World) (h0 : 0 ≤ c) (h1 : c < 128) :
    Calls Tryz.prog 150 #[.int .i32 c] w fun e w' => e = .returned (.bool (userCB c)) ∧ w = w' := by
  unfold userCB
  cases hs : smallB c <;> cases hi : decide (0 ≤ Lib.indexByte [46, 95, 61, 45, 47] c.toNat.toUInt8)
  all_goals
    have H0 := Lib.hid hs
    have HI := Lib.hid hi
    clear hs hi
    go_enter Tryz.func150, Tryz.ntmps150
    go_wp2_with (first | (go_at_call 52; refine (small_b _ _).mono ?_; rintro e w' ⟨rfl, rfl⟩; rw [H0.out]) | (go_at_call 151; refine (Tryz.strings_ContainsRune_ascii _ _ _ h0 h1).mono ?_; rintro e w' ⟨rfl, rfl⟩; dsimp only []; rw [HI.out]))
    all_goals (go_ret; exact ⟨ret_bool (by simp [H0.out, *]), rfl⟩)

set_option maxRecDepth 10000 in
set_option maxHeartbeats 800000 in
theorem all_b (g : Nat) (p : Int → Bool) (s : ByteArray) (least most : Int) (w : World) (hg : ∀ args (w : World), (callFunc g args).run Tryz.prog w = .ok (.enter g args) w)
    (hk : ∀ i w, i < s.size → Calls Tryz.prog g #[.int .i32 ((Utf8.decode s i).1 : Nat)] w fun e w' => e = .returned (.bool (p (Utf8.decode s i).1)) ∧ w = w') :
    Calls Tryz.prog 50 #[.string s, .int .i64 least, .int .i64 most, .func (.func g) #[] #[]] w fun e w' => e = .returned (.bool (allB p s least most)) ∧ Fresh w w' := by
  have Hk := Lib.hid hk
  clear hk
  unfold allB
  by_cases h1 : (s.size : Int) < least
  · go_enter Tryz.func50, Tryz.ntmps50
    go_wp2_with fail
    go_ret
    exact ⟨ret_bool (by simp [h1]), Fresh.rfl' _⟩
  by_cases h2 : most < (s.size : Int)
  · go_enter Tryz.func50, Tryz.ntmps50
    go_wp2_with fail
    go_ret
    exact ⟨ret_bool (by simp [h2]), Fresh.rfl' _⟩
  · go_enter Tryz.func50, Tryz.ntmps50
    go_wp2_with fail
    go_loopw [10] (fun _ wr => ∃ pos f : Nat, wr = w.iter s pos ∧ s.size - pos ≤ f ∧ Hid (allR p s f pos = allR p s s.size 0)) (fun _ wr => s.size - iterPos wr w.heap.size)
    case atStart => exact ⟨0, s.size, rfl, by omega, rfl⟩
    case round =>
      obtain ⟨pos, f, rfl, hf, hr⟩ := hrel
      by_cases hlt : pos < s.size
      · obtain ⟨f', hf', hst⟩ := allR_step (p := p) hlt hf
        have hn := run_next_any (P := Tryz.prog) w s pos
        have hn' := fun ty => hn ty hlt
        have hw := decode_width s pos
        cases hp : p (Utf8.decode s pos).1
        · have HR : Hid (allR p s s.size 0 = false) := by rw [← hr.out, hst, hp]; rfl
          have HP := Lib.hid hp
          clear hr hst hn hp
          go_wp2_with fail
          refine (Hk.out pos _ hlt).mono ?_
          rintro e w' ⟨rfl, rfl⟩
          rw [HP.out]
          go_wp2_with fail
          go_ret
          exact ⟨ret_bool (by rw [HR.out]; simp), (Fresh.rfl' w).alloc (Nat.le_refl _) _⟩
        · have HR : Hid (allR p s f' (pos + (Utf8.decode s pos).2) = allR p s s.size 0) := by rw [← hr.out, hst, hp]; rfl
          have HP := Lib.hid hp
          clear hr hst hn hp
          go_wp2_with fail
          refine (Hk.out pos _ hlt).mono ?_
          rintro e w' ⟨rfl, rfl⟩
          rw [HP.out]
          go_wp2_with fail
          go_roundw
          case rel => exact ⟨_, f', rfl, hf', HR⟩
          case measure => rw [iterPos_iter, iterPos_iter]; omega
      · have hn := run_next_end (P := Tryz.prog) w s pos
        have hn' := fun ty => hn ty hlt
        have HR : Hid (allR p s s.size 0 = true) := by rw [← hr.out, allR_end (by omega)]; rfl
        clear hr hn
        go_wp2_with fail
        go_ret
        exact ⟨ret_bool (by rw [HR.out]; simp [h1, h2]), (Fresh.rfl' w).alloc (Nat.le_refl _) _⟩

theorem call38 (args : Array Value) (w : World) : (callFunc 38 args).run Tryz.prog w = .ok (.enter 38 args) w := by kernel_rfl
theorem call66 (args : Array Value) (w : World) : (callFunc 66 args).run Tryz.prog w = .ok (.enter 66 args) w := by kernel_rfl
theorem call150 (args : Array Value) (w : World) : (callFunc 150 args).run Tryz.prog w = .ok (.enter 150 args) w := by kernel_rfl
theorem call39 (args : Array Value) (w : World) : (callFunc 39 args).run Tryz.prog w = .ok (.enter 39 args) w := by kernel_rfl
end Go.Proofs.YtmjclmmiljlahaaGreat

namespace Go.Proofs.YtmjclmmiljlahaaGreat
open Go.RowKit

/-- P13.1's server names. -/
def serverCp (c : Int) : Bool := smallB c || c == 46 || c == 45
def serverB (s : ByteArray) : Bool :=
  allB serverCp s 1 64 && (smallB (s.data.toList.headD 0).toNat && (smallB (s.data.toList.getLastD 0).toNat &&
    (!Lib.contains s.data.toList [46, 46] && (!Lib.contains s.data.toList [46, 45] && !Lib.contains s.data.toList [45, 46]))))

theorem all_size {p : Int → Bool} {s : ByteArray} {a b : Int} (h : allB p s a b = true) : a ≤ s.size ∧ (s.size : Int) ≤ b := by
  unfold allB at h
  simp at h
  omega

theorem headD_eq (s : ByteArray) (h : 0 < s.size) : s.data.toList.headD 0 = s[0] := by
  obtain ⟨⟨l⟩⟩ := s
  cases l with
  | nil => simp [ByteArray.size] at h
  | cons a l => rfl
theorem lastD_eq (s : ByteArray) (h : 0 < s.size) : s.data.toList.getLastD 0 = s[s.size - 1] := by
  obtain ⟨⟨l⟩⟩ := s
  have hl : l ≠ [] := by rintro rfl; simp [ByteArray.size] at h
  show l.getLastD 0 = l[l.length - 1]'(by have := List.length_pos_iff.2 hl; omega)
  rw [List.getLastD_eq_getLast?, List.getLast?_eq_getElem?, List.getElem?_eq_getElem (by have := List.length_pos_iff.2 hl; omega)]
  rfl

theorem wrap32_byte (b : UInt8) : wrap32 (b.toNat : Int) = b.toNat := by
  have := b.toNat_lt; unfold wrap32; omega

set_option maxRecDepth 10000 in
set_option maxHeartbeats 800000 in
theorem server_b (s : ByteArray) (w : World) (col : Col) (hs : s.size ≤ 4294967280) (hw : Std w col) :
    Calls Tryz.prog 51 #[.string s] w fun e w' => e = .returned (.bool (serverB s)) ∧ Fresh w w' := by
  have hall := all_b 66 serverCp s 1 64 w call66 (fun i w _ => serverC_b _ _)
  have Hall := Lib.hid hall
  clear hall
  unfold serverB
  cases ha : allB serverCp s 1 64
  · have HA := Lib.hid ha
    clear ha
    go_enter Tryz.func51, Tryz.ntmps51
    go_wp2_with fail
    refine Hall.out.mono ?_
    rintro e w' ⟨rfl, hf⟩
    rw [HA.out]
    go_wp2_with fail
    go_ret
    exact ⟨rfl, hf⟩
  · have hsz := all_size ha
    have h0 : 0 < s.size := by omega
    have e1 := headD_eq s h0
    have e2 := lastD_eq s h0
    rw [e1, e2]
    have HA := Lib.hid ha
    clear ha e1 e2
    go_enter Tryz.func51, Tryz.ntmps51
    go_wp2_with fail
    refine Hall.out.mono ?_
    rintro e w' ⟨rfl, hf⟩
    rw [HA.out]
    go_wp2_with fail
    rw [wrap32_byte]
    refine (small_b _ _).mono ?_
    rintro e w' ⟨rfl, rfl⟩
    obtain ⟨m, hm⟩ := (hw.fresh hf).max
    cases hb0 : smallB s[0].toNat
    · have H0 := Lib.hid hb0; clear hb0
      go_wp2_with fail
      go_ret
      exact ⟨ret_bool (by rw [H0.out]; rfl), hf⟩
    have H0 := Lib.hid hb0; clear hb0
    go_wp2_with fail
    rw [wrap32_byte]
    refine (small_b _ _).mono ?_
    rintro e w' ⟨rfl, rfl⟩
    cases hb0 : smallB s[s.size - 1].toNat
    · have H1 := Lib.hid hb0; clear hb0
      go_wp2_with fail
      go_ret
      exact ⟨ret_bool (by rw [H0.out, H1.out]; rfl), hf⟩
    have H1 := Lib.hid hb0; clear hb0
    go_wp2_with fail
    refine (Tryz.strings_Contains _ _ m _ (by omega) hm).mono ?_
    rintro e w' ⟨rfl, rfl⟩
    dsimp only []
    cases hb0 : Lib.contains s.data.toList [46, 46]
    rotate_left
    · have H2 := Lib.hid hb0; clear hb0
      go_wp2_with fail
      go_ret
      exact ⟨ret_bool (by rw [H0.out, H1.out, H2.out]; rfl), hf⟩
    have H2 := Lib.hid hb0; clear hb0
    go_wp2_with fail
    refine (Tryz.strings_Contains _ _ m _ (by omega) hm).mono ?_
    rintro e w' ⟨rfl, rfl⟩
    dsimp only []
    cases hb0 : Lib.contains s.data.toList [46, 45]
    rotate_left
    · have H3 := Lib.hid hb0; clear hb0
      go_wp2_with fail
      go_ret
      exact ⟨ret_bool (by rw [H0.out, H1.out, H2.out, H3.out]; rfl), hf⟩
    have H3 := Lib.hid hb0; clear hb0
    go_wp2_with fail
    refine (Tryz.strings_Contains _ _ m _ (by omega) hm).mono ?_
    rintro e w' ⟨rfl, rfl⟩
    dsimp only []
    cases hb0 : Lib.contains s.data.toList [45, 46]
    all_goals
      have H4 := Lib.hid hb0; clear hb0
      go_wp2_with fail
      go_ret
      exact ⟨ret_bool (by rw [H0.out, H1.out, H2.out, H3.out, H4.out]; rfl), hf⟩
end Go.Proofs.YtmjclmmiljlahaaGreat

namespace Go.Proofs.YtmjclmmiljlahaaGreat
open Go.RowKit

def bs (l : List UInt8) : ByteArray := ⟨l.toArray⟩
theorem bs_size (l : List UInt8) : (bs l).size = l.length := rfl
theorem bs_list (l : List UInt8) : (bs l).data.toList = l := by simp [bs]
theorem cut_le1 (l sep : List UInt8) : (Lib.cut l sep).1.length ≤ l.length := by
  unfold Lib.cut; split <;> simp <;> omega
theorem cut_le2 (l sep : List UInt8) : (Lib.cut l sep).2.1.length ≤ l.length := by
  unfold Lib.cut; split <;> simp
theorem len_size (s : ByteArray) : s.data.toList.length = s.size := Array.length_toList

theorem drewN_fresh (w : World) (n : Nat) : Fresh w (w.drewN n) := ⟨rfl, rfl, rfl, Nat.le_refl _, fun _ _ => rfl⟩

set_option maxRecDepth 10000 in
set_option maxHeartbeats 800000 in
theorem parted_core (g : Nat) (p : Int → Bool) (s mark rest loc srv : ByteArray) (hp two : Bool) (w : World) (col : Col) (hw : Std w col) (hl : srv.size ≤ 4294967280)
    (hg : ∀ args (w : World), (callFunc g args).run Tryz.prog w = .ok (.enter g args) w)
    (hk : ∀ i w, i < loc.size → Calls Tryz.prog g #[.int .i32 ((Utf8.decode loc i).1 : Nat)] w fun e w' => e = .returned (.bool (p (Utf8.decode loc i).1)) ∧ w = w')
    (h1 : ∀ w, Calls Tryz.prog 48 #[.string s, .string mark] w fun e w' => e = .returned (.tuple #[.string rest, .bool hp]) ∧ w = w')
    (h2 : ∀ w, Std w col → Calls Tryz.prog 49 #[.string rest, .string ⟨#[58]⟩] w fun e w' => e = .returned (.tuple #[.string loc, .string srv, .bool two]) ∧ Fresh w w') :
    Calls Tryz.prog 37 #[.string s, .string mark, .func (.func g) #[] #[]] w fun e w' => e = .returned (.bool (hp && (two && (allB p loc 1 32 && serverB srv)))) ∧ Fresh w w' := by
  have Hk := Lib.hid hk
  have Hg := Lib.hid hg
  have H1 := Lib.hid h1
  have H2 := Lib.hid h2
  clear hk hg h1 h2
  cases hp <;> cases two
  all_goals
    go_enter Tryz.func37, Tryz.ntmps37
    go_wp2_with fail
    refine (H1.out _).mono ?_
    rintro e w' ⟨rfl, rfl⟩
    go_wp2_with fail
    refine (H2.out _ hw).mono ?_
    rintro e w1 ⟨rfl, hf⟩
    go_wp2_with fail
  · go_ret; exact ⟨rfl, hf⟩
  · go_ret; exact ⟨rfl, hf⟩
  · go_ret; exact ⟨rfl, hf⟩
  · refine (all_b g p loc 1 32 w1 Hg.out Hk.out).mono ?_
    rintro e w2 ⟨rfl, hf2⟩
    have hf3 := hf.trans' hf2
    cases hb0 : allB p loc 1 32
    · have H4 := Lib.hid hb0; clear hb0
      go_wp2_with fail
      go_ret
      exact ⟨ret_bool (by rw [H4.out]; rfl), hf3⟩
    have H4 := Lib.hid hb0; clear hb0
    go_wp2_with fail
    refine (server_b srv w2 col hl (hw.fresh hf3)).mono ?_
    rintro e w3 ⟨rfl, hf4⟩
    go_wp2_with fail
    go_ret
    exact ⟨ret_bool (by rw [H4.out]; rfl), hf3.trans' hf4⟩

def restOf (s : ByteArray) (mark : List UInt8) : ByteArray := bs (Lib.trimPrefix s.data.toList mark)
def localOf (s : ByteArray) (mark : List UInt8) : ByteArray := bs (Lib.cut (restOf s mark).data.toList [58]).1
def serverOf (s : ByteArray) (mark : List UInt8) : ByteArray := bs (Lib.cut (restOf s mark).data.toList [58]).2.1
def partedB (p : Int → Bool) (s : ByteArray) (mark : List UInt8) : Bool :=
  Lib.hasPrefix s.data.toList mark && ((Lib.cut (restOf s mark).data.toList [58]).2.2 && (allB p (localOf s mark) 1 32 && serverB (serverOf s mark)))

theorem rest_le (s : ByteArray) (mark : List UInt8) : (restOf s mark).size ≤ s.size := by
  rw [restOf, bs_size, ← len_size]; exact Lib.trimPrefix_le _ _
theorem local_le (s : ByteArray) (mark : List UInt8) : (localOf s mark).size ≤ s.size := by
  rw [localOf, bs_size]; exact Nat.le_trans (cut_le1 _ _) (by rw [len_size]; exact rest_le s mark)
theorem server_le (s : ByteArray) (mark : List UInt8) : (serverOf s mark).size ≤ s.size := by
  rw [serverOf, bs_size]; exact Nat.le_trans (cut_le2 _ _) (by rw [len_size]; exact rest_le s mark)

theorem parted_b (g : Nat) (p : Int → Bool) (s : ByteArray) (mark : List UInt8) (w : World) (col : Col) (hs : s.size ≤ 4294967280) (hw : Std w col)
    (hg : ∀ args (w : World), (callFunc g args).run Tryz.prog w = .ok (.enter g args) w)
    (hk : ∀ i w, i < (localOf s mark).size → Calls Tryz.prog g #[.int .i32 ((Utf8.decode (localOf s mark) i).1 : Nat)] w fun e w' => e = .returned (.bool (p (Utf8.decode (localOf s mark) i).1)) ∧ w = w') :
    Calls Tryz.prog 37 #[.string s, .string (bs mark), .func (.func g) #[] #[]] w fun e w' => e = .returned (.bool (partedB p s mark)) ∧ Fresh w w' := by
  have hs2 := server_le s mark
  have hs3 := rest_le s mark
  refine parted_core g p s (bs mark) (restOf s mark) (localOf s mark) (serverOf s mark) _ _ w col hw (by omega) hg hk (fun w => ?_) (fun w hw => ?_)
  · refine (Tryz.strings_CutPrefix s (bs mark) w).mono ?_
    rintro e w' ⟨rfl, rfl⟩
    rw [bs_list]
    exact ⟨rfl, rfl⟩
  · obtain ⟨m, hm⟩ := hw.max
    refine (Tryz.strings_Cut (restOf s mark) ⟨#[58]⟩ m w (by omega) hm).mono ?_
    rintro e w' ⟨rfl, n, rfl⟩
    exact ⟨rfl, drewN_fresh _ _⟩

/-- P13.1: rooms' names. -/
def roomCp (c : Int) : Bool := plainB c || c == 45
def roomB (s : ByteArray) : Bool := partedB roomCp s [33]
def userB (s : ByteArray) : Bool := partedB userCB s [64]

theorem room_b (s : ByteArray) (w : World) (col : Col) (hs : s.size ≤ 4294967280) (hw : Std w col) :
    Calls Tryz.prog 22 #[.string s] w fun e w' => e = .returned (.bool (roomB s)) ∧ Fresh w w' := by
  have h := parted_b 38 roomCp s [33] w col hs hw call38 (fun i w _ => roomC_b _ _)
  go_enter Tryz.func22, Tryz.ntmps22
  go_wp2_with (go_at_call 37; refine h.mono ?_; rintro e w' ⟨rfl, hf⟩)
  go_ret
  exact ⟨rfl, hf⟩

/-- A text of ASCII. -/
def Ascii (s : ByteArray) : Prop := ∀ b ∈ s.data.toList, b.toNat < 128
theorem decode_asc (s : ByteArray) (h : Ascii s) (i : Nat) (hi : i < s.size) : (Utf8.decode s i).1 < 128 := by
  have hb : s[i] ∈ s.data.toList := by
    have : s[i] = s.data.toList[i]'(by rw [len_size]; exact hi) := rfl
    rw [this]; exact List.getElem_mem _
  rw [decode_ascii s i hi (h _ hb)]
  exact h _ hb
theorem local_asc (s : ByteArray) (mark : List UInt8) (h : Ascii s) : Ascii (localOf s mark) := by
  intro b hb
  refine h b ?_
  rw [localOf, bs_list] at hb
  have h1 : b ∈ (restOf s mark).data.toList := by
    unfold Lib.cut at hb
    split at hb
    · exact List.mem_of_mem_take hb
    · exact hb
  rw [restOf, bs_list] at h1
  unfold Lib.trimPrefix at h1
  split at h1
  · exact List.mem_of_mem_drop h1
  · exact h1

theorem user_b (s : ByteArray) (w : World) (col : Col) (hs : s.size ≤ 4294967280) (ha : Ascii s) (hw : Std w col) :
    Calls Tryz.prog 120 #[.string s] w fun e w' => e = .returned (.bool (userB s)) ∧ Fresh w w' := by
  have h := parted_b 150 userCB s [64] w col hs hw call150 (fun i w hi => userC_b _ _ (by omega) (by have := decode_asc _ (local_asc s [64] ha) i hi; omega))
  go_enter Tryz.func120, Tryz.ntmps120
  go_wp2_with (go_at_call 37; refine h.mono ?_; rintro e w' ⟨rfl, hf⟩)
  go_ret
  exact ⟨rfl, hf⟩
end Go.Proofs.YtmjclmmiljlahaaGreat

namespace Go.Proofs.YtmjclmmiljlahaaGreat
open Go.RowKit

def codeErr (n : Int) : Value := .iface 39 (.int .i64 n)
def splitB (s : ByteArray) : Bool := userB s || roomB s
def splitL (s : ByteArray) : ByteArray := if splitB s then bs (Lib.cut (s.data.toList.drop 1) [58]).1 else bs []
def splitS (s : ByteArray) : ByteArray := if splitB s then bs (Lib.cut (s.data.toList.drop 1) [58]).2.1 else bs []

theorem parted_pos {p : Int → Bool} {s : ByteArray} {m : UInt8} (h : partedB p s [m] = true) : 1 ≤ s.size := by
  unfold partedB at h
  simp only [Bool.and_eq_true] at h
  obtain ⟨h, _⟩ := h
  have : s.data.toList ≠ [] := by
    intro e; rw [e] at h; simp [Lib.hasPrefix] at h
  have := List.length_pos_iff.2 this
  rw [len_size] at this; exact this

theorem split_pos {s : ByteArray} (h : splitB s = true) : 1 ≤ s.size := by
  unfold splitB at h
  rcases Bool.or_eq_true_iff.1 h with h | h
  · exact parted_pos h
  · exact parted_pos h

theorem extract1 (s : ByteArray) : (s.extract 1 s.size).data.toList = s.data.toList.drop 1 := by
  simp [ByteArray.data_extract]
  exact List.take_of_length_le (by rw [List.length_tail, len_size]; exact Nat.le_refl _)

set_option maxRecDepth 10000 in
set_option maxHeartbeats 800000 in
theorem split_b (s : ByteArray) (w : World) (col : Col) (hs : s.size ≤ 4294967280) (ha : Ascii s) (hw : Std w col) :
    Calls Tryz.prog 118 #[.string s] w fun e w' => e = .returned (.tuple #[.string (splitL s), .string (splitS s), if splitB s then .nilIface else codeErr 3]) ∧ Fresh w w' := by
  unfold splitL splitS
  cases hsp : splitB s
  · have hu : userB s = false ∧ roomB s = false := by simpa [splitB] using hsp
    have H1 := Lib.hid hu.1
    have H2 := Lib.hid hu.2
    clear hsp hu
    go_enter Tryz.func118, Tryz.ntmps118
    go_wp2_with fail
    refine (user_b s w col hs ha hw).mono ?_
    rintro e w1 ⟨rfl, hf⟩
    rw [H1.out]
    go_wp2_with fail
    refine (room_b s w1 col hs (hw.fresh hf)).mono ?_
    rintro e w2 ⟨rfl, hf2⟩
    rw [H2.out]
    go_wp2_with fail
    go_ret3
    exact ⟨rfl, hf.trans' hf2⟩
  · have h1 := split_pos hsp
    have hsz : (1 : Int) ≤ s.size := by omega
    have key : ∀ w1, Fresh w w1 → Calls Tryz.prog 49 #[.string (s.extract 1 s.size), .string ⟨#[58]⟩] w1 fun e w' =>
        e = .returned (.tuple #[.string (bs (Lib.cut (s.data.toList.drop 1) [58]).1), .string (bs (Lib.cut (s.data.toList.drop 1) [58]).2.1), .bool (Lib.cut (s.data.toList.drop 1) [58]).2.2]) ∧ Fresh w w' := by
      intro w1 hf
      obtain ⟨m, hm⟩ := (hw.fresh hf).max
      refine (Tryz.strings_Cut _ _ m w1 (by simp [ByteArray.size_extract]; omega) hm).mono ?_
      rintro e w' ⟨rfl, n, rfl⟩
      rw [extract1]
      exact ⟨rfl, hf.trans' (drewN_fresh _ _)⟩
    have Key := Lib.hid key
    clear key
    cases hu : userB s
    · have hr : roomB s = true := by simpa [splitB, hu] using hsp
      have H1 := Lib.hid hu
      have H2 := Lib.hid hr
      clear hsp hu hr
      go_enter Tryz.func118, Tryz.ntmps118
      go_wp2_with fail
      refine (user_b s w col hs ha hw).mono ?_
      rintro e w1 ⟨rfl, hf⟩
      rw [H1.out]
      go_wp2_with fail
      refine (room_b s w1 col hs (hw.fresh hf)).mono ?_
      rintro e w2 ⟨rfl, hf2⟩
      rw [H2.out]
      go_wp2_with fail
      refine (Key.out _ (hf.trans' hf2)).mono ?_
      rintro e w3 ⟨rfl, hf3⟩
      go_wp2_with fail
      go_ret3
      exact ⟨rfl, hf3⟩
    · have H1 := Lib.hid hu
      clear hsp hu
      go_enter Tryz.func118, Tryz.ntmps118
      go_wp2_with fail
      refine (user_b s w col hs ha hw).mono ?_
      rintro e w1 ⟨rfl, hf⟩
      rw [H1.out]
      go_wp2_with fail
      refine (Key.out _ hf).mono ?_
      rintro e w3 ⟨rfl, hf3⟩
      go_wp2_with fail
      go_ret3
      exact ⟨rfl, hf3⟩
end Go.Proofs.YtmjclmmiljlahaaGreat
