/-
  Parts of a proof: judging an event. No condition.
-/
import Derived.Test.YtmjclmmiljlahaaGreatG4
import Derived.Deep.DeepCutAuto
import Derived.Deep.CutRange
import Derived.Deep.CutBlock
set_option linter.unusedVariables false
set_option linter.unusedSimpArgs false
namespace Go.Proofs.YtmjclmmiljlahaaGreat
open Go.RowKit

section
variable {P : Program} (w : World)
/-- 'append' onto a row of the call's own, from whatever source. -/
theorem run_append_own_src2 (base : Nat) (t tx ty e : TypeId) (i : TypeInfo) (z : Value) (size bytes : Nat) (ht : P.underlying t = some (.slice e)) (hi : P.info? e = some i) (hz : i.zero = some z)
    (hsize : i.size = size) (hby : i.bytes = bytes) (hzs : z.cells.size = size) (hsz : 0 < size)
    (v : Value) (n : Nat) (xs : List Value) (hown : w.ownsRow base e size v n xs)
    (x : Value) (m : Nat) (news : List Value) (hx : Src P size tx x m news w)
    (h63 : n + m ≤ maxLen) (hbytes : (n + m) * bytes ≤ 140737488355328) (hbase : base ≤ w.heap.size) :
    ∃ v' w', (Builtin.append_ #[t, tx] ty #[v, x]).run P w = .ok v' w' ∧ w'.ownsRow base e size v' (n + m) (xs ++ news) ∧ w.grownBy w' v.ownBlock ∧
      (v' = .slice none 0 0 ↔ v = .slice none 0 0 ∧ m = 0) ∧ (v'.ownBlock = v.ownBlock ∨ v'.ownBlock = some w.heap.size) := by
  subst hsize
  subst hby
  have hsmall : n + m ≤ 9223372036854775807 := by simp only [maxLen] at h63; omega
  have hl := hx.newsLen
  have hlen : (xs ++ news).length = (n + m) * i.size := by rw [List.length_append, hown.1, hl, Nat.add_mul]
  have grown : ∀ (old : Nat), old < n + m → ∀ (row : Option Nat),
      (w.drew.alloc (.cells ((xs ++ news).toArray ++ Builtin.zeroCells z.cells (grownCap w (n + m) old e - (n + m))) e)).ownsRow base e i.size
        (.slice (some ⟨w.heap.size, 0, none⟩) (n + m) (grownCap w (n + m) old e)) (n + m) (xs ++ news) ∧
      w.grownBy (w.drew.alloc (.cells ((xs ++ news).toArray ++ Builtin.zeroCells z.cells (grownCap w (n + m) old e - (n + m))) e)) row := by
    intro old ho row
    have hge := grownCap_ge w (n + m) old e
    have hcm : grownCap w (n + m) old e ≤ maxLen := grownCap_le_maxLen w (n + m) old e h63
    refine ⟨⟨hlen, .inr ⟨w.heap.size, _, _, rfl, hbase, heap_alloc_new w.drew _, hge, hcm, ?_, ?_⟩⟩, ⟨rfl, rfl, rfl, by simp, fun k hk _ => Below.heap_alloc w.drew _ k hk⟩⟩
    · simp only [Array.size_append, List.size_toArray, size_zeroCells, hzs, List.length_append, hown.1, hl, ← Nat.add_mul]
      congr 1
      omega
    · rw [Array.toList_append, List.take_append_of_le_length (by simp [hown.1, hl, Nat.add_mul])]
      exact List.take_of_length_le (by simp [hown.1, hl, Nat.add_mul])
  rcases hown.2 with ⟨rfl, rfl⟩ | ⟨g, cap, cur, rfl, hbg, hg, hnc, hcm, hcs, htake⟩
  · have hxs : xs = [] := List.eq_nil_of_length_eq_zero (by simpa using hown.1)
    subst hxs
    by_cases hm : m = 0
    · subst hm
      have hn : news = [] := List.eq_nil_of_length_eq_zero (by simpa using hl)
      subst hn
      refine ⟨.slice none 0 0, w, ?_, World.ownsRow_nil w base e i.size, ⟨rfl, rfl, rfl, Nat.le_refl _, fun _ _ _ => rfl⟩, by simp, .inl rfl⟩
      rcases hx.kind with ⟨e', hk⟩ | hk <;> simp [Builtin.append_, run_underlying ht, run_underlying hk, sizeOf, typeInfo, hi, hx.len, hx.cells]
    · have hr := run_append_grow_src (P := P) w t tx ty e i z ht hi hz none 0 0 [] (by simp [Builtin.firstCells]) x m news hx (by omega) (by omega)
        (growslice_fits (by omega) (by simpa using hbytes))
      have hgr := grown 0 (by omega) (Value.ownBlock (.slice none 0 0))
      exact ⟨_, _, hr, hgr.1, hgr.2, by simp [hm], .inr rfl⟩
  · by_cases hroom : n + m ≤ cap
    · have hfit : n * i.size + news.length ≤ cur.size := by rw [hl, hcs, ← Nat.add_mul]; exact Nat.mul_le_mul_right _ hroom
      have hf := hx.cells
      have hst := run_storeCells_at P g (n * i.size) e news 0 cur w hg (by simpa using hfit) hx.one
      have hr : (Builtin.append_ #[t, tx] ty #[.slice (some ⟨g, 0, none⟩) n cap, x]).run P w =
        .ok (.slice (some ⟨g, 0, none⟩) (n + m) cap) (w.setRow g (cur.toList.take (n * i.size) ++ news ++ cur.toList.drop (n * i.size + news.length)).toArray) := by
        simp only [Nat.add_zero] at hst
        rcases hx.kind with ⟨e', hk⟩ | hk <;> simp [Builtin.append_, run_underlying ht, run_underlying hk, sizeOf, typeInfo, hi, hx.len, hroom, hf, Addr.add_lit, hst]
      refine ⟨_, _, hr, ⟨hlen, .inr ⟨g, cap, _, rfl, hbg, setRow_heap w g cur _ e _ hg, hroom, hcm, ?_, ?_⟩⟩, ⟨rfl, rfl, rfl, by simp [World.setRow], fun k _ hk => setRow_other w g k _ (fun e => hk (by simp [Value.ownBlock, e]))⟩, by simp, .inl rfl⟩
      · simp only [List.size_toArray, List.length_append, List.length_take, List.length_drop, Array.length_toList]
        omega
      · rw [htake, ← hlen]
        simp only [List.take_left']
    · have holds : ∀ j u, xs[j]? = some u → w.cell? ((⟨g, 0, none⟩ : Addr).add j) = some u := hown.cells (g := g) rfl
      have hr := run_append_grow_src (P := P) w t tx ty e i z ht hi hz (some ⟨g, 0, none⟩) n cap xs
        (run_firstCells_some w.drew i.size n ⟨g, 0, none⟩ n cap xs hown.1 (by simpa using holds)) x m news hx (by omega) (by omega) (growslice_fits (by omega) hbytes)
      have hgr := grown cap (by omega) (Value.ownBlock (.slice (some ⟨g, 0, none⟩) n cap))
      exact ⟨_, _, hr, hgr.1, hgr.2, by simp, .inr rfl⟩

theorem wpList_append_src2 {ops : Array Oper} {rest : List Oper} {o : Oper} {a : Act} {Q : Exit → Act → World → Prop} (hgd : o.guard = none) (s x : Operand) (t tx : TypeId)
    (ho : o.op = .call { callee := .builtin .append, args := #[s, x], argTypes := #[t, tx] })
    (base : Nat) (e : TypeId) (z : Value) (size bytes : Nat) (ht : P.underlying t = some (.slice e)) (hi : (P.info? e).map (fun i => (i.zero, i.size, i.bytes)) = some (some z, size, bytes))
    (hzs : z.cells.size = size) (hsz : 0 < size)
    (v : Value) (n : Nat) (xs : List Value) (hs : a.eval s = v) (hown : w.ownsRow base e size v n xs)
    (vx : Value) (m : Nat) (news : List Value) (hxv : a.eval x = vx) (hx : Src P size tx vx m news w)
    (h63 : n + m ≤ maxLen) (hbytes : (n + m) * bytes ≤ 140737488355328) (hbase : base ≤ w.heap.size)
    (h : ∀ v' w', w'.ownsRow base e size v' (n + m) (xs ++ news) → w.grownBy w' v.ownBlock → (v'.ownBlock = v.ownBlock ∨ v'.ownBlock = some w.heap.size) → wpList P ops Q rest (a.put o.dst v') w') : wpList P ops Q (o :: rest) a w := by
  obtain ⟨i, hi, hz, hsize, hby⟩ := info_parts hi
  refine wpList_plain hgd fun K hK => ?_
  obtain ⟨v', w', hr, h2, h3, _, h4⟩ := run_append_own_src2 (P := P) w base t tx o.type e i z size bytes ht hi hz hsize hby hzs hsz v n xs hown vx m news hx h63 hbytes hbase
  unfold Oper.wp
  simp [execOp, ho, resolve, invoke, builtin, hs, hxv, hr, Result.andThen]
  exact hK _ _ (h v' w' h2 h3 h4)

theorem step_append_src2 {ops : Array Oper} {o : Oper} {a : Act} {K : Act → World → Prop} {Q : Exit → Act → World → Prop} {E : Prop} (hgd : o.guard = none) (s x : Operand) (t tx : TypeId)
    (ho : o.op = .call { callee := .builtin .append, args := #[s, x], argTypes := #[t, tx] })
    (base : Nat) (e : TypeId) (z : Value) (size bytes : Nat) (ht : P.underlying t = some (.slice e)) (hi : (P.info? e).map (fun i => (i.zero, i.size, i.bytes)) = some (some z, size, bytes))
    (hzs : z.cells.size = size) (hsz : 0 < size)
    (v : Value) (n : Nat) (xs : List Value) (hs : a.eval s = v) (hown : w.ownsRow base e size v n xs)
    (vx : Value) (m : Nat) (news : List Value) (hxv : a.eval x = vx) (hx : Src P size tx vx m news w)
    (h63 : n + m ≤ maxLen) (hbytes : (n + m) * bytes ≤ 140737488355328) (hbase : base ≤ w.heap.size)
    (h : ∀ v' w', w'.ownsRow base e size v' (n + m) (xs ++ news) → w.grownBy w' v.ownBlock → (v'.ownBlock = v.ownBlock ∨ v'.ownBlock = some w.heap.size) → K (a.put o.dst v') w') :
    if Region.wanted o (yielded ops a.tmps) = true then Oper.wp P o a w K Q else E := by
  obtain ⟨i, hi, hz, hsize, hby⟩ := info_parts hi
  rw [if_pos (by simp [Region.wanted, hgd])]
  obtain ⟨v', w', hr, h2, h3, _, h4⟩ := run_append_own_src2 (P := P) w base t tx o.type e i z size bytes ht hi hz hsize hby hzs hsz v n xs hown vx m news hx h63 hbytes hbase
  unfold Oper.wp
  simp [execOp, ho, resolve, invoke, builtin, hs, hxv, hr, Result.andThen]
  exact h v' w' h2 h3 h4
end

/-- 'append' onto a coloured row. -/
theorem OwnC.app {w w' : World} {col : Col} {c e size n m : Nat} {v v' : SV} {cs cs' : List Value} (h : OwnC w col c e size v n cs) (hrow : w'.ownsRow 0 e size (sv v') m cs') (hg : w.grownBy w' (sv v).ownBlock)
    (hb : (sv v').ownBlock = (sv v).ownBlock ∨ (sv v').ownBlock = some w.heap.size) (hc : c ≠ 0) (hcol : Std w col) :
    ∃ col', OwnC w' col' c e size v' m cs' ∧ Keep w col w' col' (fun x => x ≠ c) ∧ Std w' col' := by
  have hold : ∀ b, b < w.heap.size → (sv v').ownBlock = some b → col b = c := fun b hl hbb => by
    rcases hb with hb | hb
    · exact h.cl b (hb ▸ hbb)
    · rw [hb] at hbb
      simp at hbb
      omega
  have hne : ∀ b, b < w.heap.size → col b ≠ c → w'.heap[b]? = w.heap[b]? := fun b hl hn => hg.block b hl (fun e => hn (h.cl b e.symm))
  refine ⟨fun b => if (sv v').ownBlock = some b then c else col b, ⟨hrow, fun b hbb => by simp [hbb]⟩, ⟨hg.size, fun b hl hn => hne b hl hn, fun b hl => ?_, hg.os, hg.tape, hg.output⟩, ⟨fun b hbl => ?_, ?_, ?_⟩⟩
  · by_cases e : (sv v').ownBlock = some b
    · simp only [e, if_true]; exact (hold b hl e).symm
    · simp only [e, if_false]
  · have hl := hg.size
    by_cases e : (sv v').ownBlock = some b
    · have := own_lt hrow e; omega
    · simp only [e, if_false]; exact hcol.ok b (by omega)
  · obtain ⟨x, hx⟩ := hcol.max
    refine ⟨x, ?_⟩
    rw [cell_of_block (hne 0 hcol.pos (by rw [hcol.c0]; exact fun e => hc e.symm))]
    exact hx
  · by_cases e : (sv v').ownBlock = some 0
    · have := hold 0 hcol.pos e
      rw [hcol.c0] at this
      exact absurd this.symm hc
    · simp only [e, if_false]; exact hcol.c0
end Go.Proofs.YtmjclmmiljlahaaGreat

set_option linter.unusedVariables false
set_option linter.unusedSimpArgs false
namespace Go.Proofs.YtmjclmmiljlahaaGreat
open Go.RowKit

def Rm.new (name : ByteArray) (nm em : Nat) : Rm := ⟨name, nm, .nil, .nil, .nil, .nil, em, .nil, false, 0, [], [], [], [], [], [], []⟩
theorem ownC_nil (w : World) (col : Col) (c e size : Nat) : OwnC w col c e size .nil 0 [] := ⟨World.ownsRow_nil _ _ _ _, fun b hb => by cases hb⟩

theorem new_is {w : World} {col : Col} (name : ByteArray) (k : Nat) (hcol : Std w col) :
    ∃ col', RmIs (((w.alloc (.map #[] 0)).alloc (.map #[] 0)).alloc (.cells (Rm.new name w.heap.size (w.heap.size + 1)).cells 60)) col' k (w.heap.size + 1 + 1) (Rm.new name w.heap.size (w.heap.size + 1)) ∧
      Std (((w.alloc (.map #[] 0)).alloc (.map #[] 0)).alloc (.cells (Rm.new name w.heap.size (w.heap.size + 1)).cells 60)) col' ∧
      Keep w col (((w.alloc (.map #[] 0)).alloc (.map #[] 0)).alloc (.cells (Rm.new name w.heap.size (w.heap.size + 1)).cells 60)) col' (fun _ => True) := by
  have hf : Fresh w (((w.alloc (.map #[] 0)).alloc (.map #[] 0)).alloc (.cells (Rm.new name w.heap.size (w.heap.size + 1)).cells 60)) := (((Fresh.rfl' w).alloc (Nat.le_refl _) _).alloc (by simp) _).alloc (by simp; omega) _
  have hpos := hcol.pos
  refine ⟨fun b => if b = w.heap.size then k + 2 else if b = w.heap.size + 1 then k + 3 else if b = w.heap.size + 1 + 1 then k + 1 else col b, ⟨heap_alloc_at (by simp), ?_, ?_⟩, ⟨fun b hb => ?_, ?_, ?_⟩, ⟨hf.size, fun b hb _ => hf.blocks b hb, fun b hb => ?_, hf.os, hf.tape, hf.output⟩⟩
  · rw [if_neg (by omega), if_neg (by omega), if_pos rfl]
  · refine { nodes := ?_, cn := if_pos rfl, ends := ?_, ce := ?_, nd := fun n hn => (List.not_mem_nil hn).elim, blks := List.nodup_nil, st := ownC_nil _ _ _ _ _, od := ownC_nil _ _ _ _ _, ev := ownC_nil _ _ _ _ _, rj := ownC_nil _ _ _ _ _, evis := fun e he => (List.not_mem_nil he).elim, now := ⟨rfl, by simp [Rm.new], .inl ⟨rfl, rfl⟩⟩, small := ?_ }
    · exact (MapIs.made w Value.string).fresh ((((Fresh.rfl' _).alloc (Nat.le_refl _) _)).alloc (by simp) _)
    · have := MapIs.made (w.alloc (.map #[] 0)) Value.string
      rw [World.size_alloc] at this
      exact this.fresh ((Fresh.rfl' _).alloc (Nat.le_refl _) _)
    · exact (if_neg (Nat.succ_ne_self _)).trans (if_pos rfl)
    · simp [Rm.new]
  · simp only [World.size_alloc] at hb
    rw [if_neg (by omega), if_neg (by omega), if_neg (by omega)]
    exact hcol.ok b (by omega)
  · obtain ⟨m, hm⟩ := hcol.max
    exact ⟨m, hf.keep hm⟩
  · rw [if_neg (by omega), if_neg (by omega), if_neg (by omega)]
    exact hcol.c0
  · show (if b = w.heap.size then k + 2 else if b = w.heap.size + 1 then k + 3 else if b = w.heap.size + 1 + 1 then k + 1 else col b) = col b
    rw [if_neg (by omega), if_neg (by omega), if_neg (by omega)]

set_option maxRecDepth 10000 in
set_option maxHeartbeats 800000 in
/-- dag.New. -/
theorem new_any {w : World} {col : Col} (name : ByteArray) (k : Nat) (hs : name.size ≤ 4294967280) (hcol : Std w col) (hr : roomB name = true) :
    Calls Tryz.prog 6 #[.string name] w fun x w' => ∃ R nm em col', x = .returned (.tuple #[.pointer (some ⟨R, 0, none⟩), .nilIface]) ∧ RmIs w' col' k R (Rm.new name nm em) ∧ Std w' col' ∧ Keep w col w' col' (fun _ => True) := by
  have hc := room_b name w col hs hcol
  rw [hr] at hc
  have HC := Lib.hid hc
  clear hc hr
  have hmm := @run_makeMap Tryz.prog
  go_enter Tryz.func6, Tryz.ntmps6
  go_wp2_with fail
  refine HC.out.mono ?_
  rintro x w1 ⟨rfl, hf1⟩
  have HF := Lib.hid hf1
  clear hf1
  go_wp2_with fail
  go_ret2
  obtain ⟨col', h1, h2, h3⟩ := new_is (w := w1) (col := col) name k (hcol.fresh HF.out)
  exact ⟨_, _, _, col', rfl, h1, h2, (Keep.ofFresh HF.out).trans h3⟩
end Go.Proofs.YtmjclmmiljlahaaGreat

set_option linter.unusedVariables false
set_option linter.unusedSimpArgs false
namespace Go.Proofs.YtmjclmmiljlahaaGreat
open Go.RowKit

def contentD (name text : ByteArray) : JV := .mk 5 false 0 ⟨#[]⟩ [] [(name, .mk 3 false 0 text [] [])]

theorem content_is {w : World} {col : Col} (name text : ByteArray) (b : Nat) (hb : w.heap[b]? = some (.cells #[.string name, .int .i64 3, .bool false, .int .i64 0, .string text, .slice none 0 0, .slice none 0 0] 72 (0, 0))) (hc : col b = 0) :
    JVIs w col (contentD name text) .nil ⟨some ⟨b, 0, none⟩, 1, 1⟩ := by
  refine .mk (fun _ => (.nil, .nil)) (fun _ => (.nil, .nil)) ⟨rfl, by simp [contentD, JV.list], .inl ⟨rfl, rfl⟩⟩ ⟨rfl, by simp [contentD, JV.fields], .inr ⟨b, 0, 1, rfl, Nat.le_refl _, by unfold maxLen; omega, box_lt hb, hc, fun j hj => ?_⟩⟩ (fun i hi => by simp [contentD, JV.list] at hi) (fun i hi => ?_)
  · have h7 : j < 7 := hj
    simp only [World.cell?, hb, Nat.zero_add]
    match j, h7 with
    | 0, _ => rfl
    | 1, _ => rfl
    | 2, _ => rfl
    | 3, _ => rfl
    | 4, _ => rfl
    | 5, _ => rfl
    | 6, _ => rfl
    | j + 7, h => exact absurd h (by omega)
  · have : i = 0 := by simpa [contentD, JV.fields] using hi
    subst this
    exact .mk (fun _ => (.nil, .nil)) (fun _ => (.nil, .nil)) ⟨rfl, Nat.zero_le _, .inl ⟨rfl, rfl⟩⟩ ⟨rfl, Nat.zero_le _, .inl ⟨rfl, rfl⟩⟩ (fun i hi => (Nat.not_lt_zero i hi).elim) (fun i hi => (Nat.not_lt_zero i hi).elim)

set_option maxRecDepth 10000 in
set_option maxHeartbeats 800000 in
theorem content_any {w : World} {col : Col} (name text : ByteArray) (hcol : Std w col) :
    Calls Tryz.prog 10 #[.string name, .string text] w fun x w' => ∃ b : SV, x = .returned (jvV (contentD name text) .nil b) ∧ JVIs w' col (contentD name text) .nil b ∧ Fresh w w' := by
  go_enter Tryz.func10, Tryz.ntmps10
  go_wp2_with fail
  have hb0 := heap_alloc_new w (.cells #[.int .i64 5, .bool false, .int .i64 0, .string ⟨#[]⟩, .slice none 0 0, .slice (some ⟨w.heap.size + 1, 0, none⟩) 1 1] 36)
  refine bodyPost_ret (results_cell1 rfl _ _ w.heap.size 36 _ (0, 0) _ rfl ((Below.heap_alloc _ _ _ (by simp)).trans hb0) Tryz.underlying36 rfl (by kernel_rfl)) rfl
    ⟨⟨some ⟨w.heap.size + 1, 0, none⟩, 1, 1⟩, rfl, content_is name text _ (heap_alloc_at (by simp)) (hcol.ok _ (Nat.le_succ _)), ((Fresh.rfl' w).alloc (Nat.le_refl _) _).alloc (by simp) _⟩
end Go.Proofs.YtmjclmmiljlahaaGreat

set_option linter.unusedVariables false
set_option linter.unusedSimpArgs false
namespace Go.Proofs.YtmjclmmiljlahaaGreat
open Go.RowKit
set_option maxHeartbeats 400000 in
/-- pick(many, 70): a number below 70. -/
theorem pick_any {w : World} (x : Int) (hx : -9223372036854775808 ≤ x) (hx2 : x ≤ 9223372036854775807) :
    Calls Tryz.prog 7 #[.int .i64 x, .int .i64 70] w fun r w' => ∃ n : Nat, r = .returned (.int .i64 n) ∧ n < 70 ∧ w = w' := by
  by_cases h : x < 0
  · have h1 : 0 ≤ -(x + 1).tmod 70 ∧ -(x + 1).tmod 70 < 70 := by
      have e : -((x + 1).tmod 70) = (-(x + 1)) % 70 := by
        rw [← Int.neg_tmod, Int.tmod_eq_emod_of_nonneg (by omega)]
      omega
    obtain ⟨n, hn⟩ := Int.eq_ofNat_of_zero_le h1.1
    have H1 := Lib.hid h1; have Hn := Lib.hid hn
    clear h1 hn
    go_enter Tryz.func7, Tryz.ntmps7
    go_wp2
    go_ret
    exact ⟨n, ret_int Hn.out, by have := H1.out; have := Hn.out; omega, rfl⟩
  · have h1 : 0 ≤ x % 70 ∧ x % 70 < 70 := by omega
    obtain ⟨n, hn⟩ := Int.eq_ofNat_of_zero_le h1.1
    have H1 := Lib.hid h1; have Hn := Lib.hid hn
    clear h1 hn
    go_enter Tryz.func7, Tryz.ntmps7
    go_wp2
    go_ret
    exact ⟨n, ret_int Hn.out, by have := H1.out; have := Hn.out; omega, rfl⟩
end Go.Proofs.YtmjclmmiljlahaaGreat

set_option linter.unusedVariables false
set_option linter.unusedSimpArgs false
namespace Go.Proofs.YtmjclmmiljlahaaGreat
open Go.RowKit

/-- What is not the room's. -/
def outC (k : Nat) : Nat → Prop := fun c => ¬(k + 1 ≤ c ∧ c ≤ k + 8)

/-- The room behind an append onto its order. -/
theorem RmIs.appOd {w w' : World} {col : Col} {k R : Nat} {r : Rm} (h : RmIs w col k R r) (hcol : Std w col) (v : SV) (id : ByteArray)
    (hrow : w'.ownsRow 0 9 1 (sv v) (r.order.length + 1) ((r.order ++ [id]).map Value.string)) (hg : w.grownBy w' (sv r.od).ownBlock)
    (hb : (sv v).ownBlock = (sv r.od).ownBlock ∨ (sv v).ownBlock = some w.heap.size) (hl : r.order.length < 4096) :
    ∃ col', RmIs (w'.setCell ⟨R, 3, none⟩ (sv v)) col' k R { r with od := v, order := r.order ++ [id] } ∧ Std (w'.setCell ⟨R, 3, none⟩ (sv v)) col' ∧ Keep w col (w'.setCell ⟨R, 3, none⟩ (sv v)) col' (outC k) := by
  obtain ⟨col', h1, h2, h3⟩ := OwnC.app h.rest.od hrow hg hb (by omega) hcol
  have hR : col' R = k + 1 := (h2.color R h.lt).trans h.cR
  have hk : Keep w' col' (w'.setCell ⟨R, 3, none⟩ (sv v)) col' (fun c => c ≠ k + 1) := by
    have := keep_setCell (w := w') (col := col') (g := R) (o := 3) (v := sv v)
    rw [hR] at this; exact this
  have hbox : w'.heap[R]? = some (.cells r.cells 60 (0, 0)) := (h2.block R h.lt (by rw [h.cR]; omega)).trans h.box
  have h12 : Keep w col (w'.setCell ⟨R, 3, none⟩ (sv v)) col' (fun c => c ≠ k + 6 ∧ c ≠ k + 1) := (h2.imp (fun _ h => h.1)).trans (hk.imp (fun _ h => h.2))
  have hm := h12.move (by omega)
  have hr := h.rest
  refine ⟨col', ⟨setCell_row hbox, hR, ?_⟩, ⟨fun b hb => h3.ok b (by rw [setCell_hsize] at hb; exact hb), ?_, h3.c0⟩, h12.imp (fun c hc => by unfold outC at hc; omega)⟩
  · exact { nodes := hr.nodes.block (h12.block _ hr.nodes.lt (by rw [hr.cn]; omega)), cn := (h12.color _ hr.nodes.lt).trans hr.cn, ends := hr.ends.block (h12.block _ hr.ends.lt (by rw [hr.ce]; omega)), ce := (h12.color _ hr.ends.lt).trans hr.ce,
            nd := fun n hn => (hr.nd n hn).keep h12 (by omega) (by omega), blks := hr.blks, st := hr.st.keep h12 (by omega),
            od := by
              have := h1.keep hk (by omega)
              simpa using this
            ev := hr.ev.keep h12 (by omega), rj := hr.rj.keep h12 (by omega), evis := fun e he => (hr.evis e he).move hm, now := hr.now.move hm,
            small := ⟨hr.small.1, hr.small.2.1, by simp; omega, hr.small.2.2.2.1, hr.small.2.2.2.2.1, hr.small.2.2.2.2.2⟩ }
  · obtain ⟨m, hm⟩ := h3.max
    refine ⟨m, ?_⟩
    rw [cell_of_block (setCell_block (fun e => by have := h3.c0; rw [e, hR] at this; omega))]
    exact hm
/-- The room behind an append onto its rejected. -/
theorem RmIs.appRj {w w' : World} {col : Col} {k R : Nat} {r : Rm} (h : RmIs w col k R r) (hcol : Std w col) (v : SV) (id : ByteArray)
    (hrow : w'.ownsRow 0 9 1 (sv v) (r.rejected.length + 1) ((r.rejected ++ [id]).map Value.string)) (hg : w.grownBy w' (sv r.rj).ownBlock)
    (hb : (sv v).ownBlock = (sv r.rj).ownBlock ∨ (sv v).ownBlock = some w.heap.size) (hl : r.rejected.length < 4096) :
    ∃ col', RmIs (w'.setCell ⟨R, 5, none⟩ (sv v)) col' k R { r with rj := v, rejected := r.rejected ++ [id] } ∧ Std (w'.setCell ⟨R, 5, none⟩ (sv v)) col' ∧ Keep w col (w'.setCell ⟨R, 5, none⟩ (sv v)) col' (outC k) := by
  obtain ⟨col', h1, h2, h3⟩ := OwnC.app h.rest.rj hrow hg hb (by omega) hcol
  have hR : col' R = k + 1 := (h2.color R h.lt).trans h.cR
  have hk : Keep w' col' (w'.setCell ⟨R, 5, none⟩ (sv v)) col' (fun c => c ≠ k + 1) := by
    have := keep_setCell (w := w') (col := col') (g := R) (o := 5) (v := sv v)
    rw [hR] at this; exact this
  have hbox : w'.heap[R]? = some (.cells r.cells 60 (0, 0)) := (h2.block R h.lt (by rw [h.cR]; omega)).trans h.box
  have h12 : Keep w col (w'.setCell ⟨R, 5, none⟩ (sv v)) col' (fun c => c ≠ k + 8 ∧ c ≠ k + 1) := (h2.imp (fun _ h => h.1)).trans (hk.imp (fun _ h => h.2))
  have hm := h12.move (by omega)
  have hr := h.rest
  refine ⟨col', ⟨setCell_row hbox, hR, ?_⟩, ⟨fun b hb => h3.ok b (by rw [setCell_hsize] at hb; exact hb), ?_, h3.c0⟩, h12.imp (fun c hc => by unfold outC at hc; omega)⟩
  · exact { nodes := hr.nodes.block (h12.block _ hr.nodes.lt (by rw [hr.cn]; omega)), cn := (h12.color _ hr.nodes.lt).trans hr.cn, ends := hr.ends.block (h12.block _ hr.ends.lt (by rw [hr.ce]; omega)), ce := (h12.color _ hr.ends.lt).trans hr.ce,
            nd := fun n hn => (hr.nd n hn).keep h12 (by omega) (by omega), blks := hr.blks, st := hr.st.keep h12 (by omega),
            od := hr.od.keep h12 (by omega), ev := hr.ev.keep h12 (by omega),
            rj := by
              have := h1.keep hk (by omega)
              simpa using this
            evis := fun e he => (hr.evis e he).move hm, now := hr.now.move hm,
            small := ⟨hr.small.1, hr.small.2.1, hr.small.2.2.1, hr.small.2.2.2.1, by simp; omega, hr.small.2.2.2.2.2⟩ }
  · obtain ⟨m, hm⟩ := h3.max
    refine ⟨m, ?_⟩
    rw [cell_of_block (setCell_block (fun e => by have := h3.c0; rw [e, hR] at this; omega))]
    exact hm
/-- The room behind an append onto its staged. -/
theorem RmIs.appSt {w w' : World} {col : Col} {k R : Nat} {r : Rm} (h : RmIs w col k R r) (hcol : Std w col) (v : SV) (id : ByteArray)
    (hrow : w'.ownsRow 0 9 1 (sv v) (r.staged.length + 1) ((r.staged ++ [id]).map Value.string)) (hg : w.grownBy w' (sv r.st).ownBlock)
    (hb : (sv v).ownBlock = (sv r.st).ownBlock ∨ (sv v).ownBlock = some w.heap.size) (hl : r.staged.length < 4096) :
    ∃ col', RmIs (w'.setCell ⟨R, 2, none⟩ (sv v)) col' k R { r with st := v, staged := r.staged ++ [id] } ∧ Std (w'.setCell ⟨R, 2, none⟩ (sv v)) col' ∧ Keep w col (w'.setCell ⟨R, 2, none⟩ (sv v)) col' (outC k) := by
  obtain ⟨col', h1, h2, h3⟩ := OwnC.app h.rest.st hrow hg hb (by omega) hcol
  have hR : col' R = k + 1 := (h2.color R h.lt).trans h.cR
  have hk : Keep w' col' (w'.setCell ⟨R, 2, none⟩ (sv v)) col' (fun c => c ≠ k + 1) := by
    have := keep_setCell (w := w') (col := col') (g := R) (o := 2) (v := sv v)
    rw [hR] at this; exact this
  have hbox : w'.heap[R]? = some (.cells r.cells 60 (0, 0)) := (h2.block R h.lt (by rw [h.cR]; omega)).trans h.box
  have h12 : Keep w col (w'.setCell ⟨R, 2, none⟩ (sv v)) col' (fun c => c ≠ k + 5 ∧ c ≠ k + 1) := (h2.imp (fun _ h => h.1)).trans (hk.imp (fun _ h => h.2))
  have hm := h12.move (by omega)
  have hr := h.rest
  refine ⟨col', ⟨setCell_row hbox, hR, ?_⟩, ⟨fun b hb => h3.ok b (by rw [setCell_hsize] at hb; exact hb), ?_, h3.c0⟩, h12.imp (fun c hc => by unfold outC at hc; omega)⟩
  · exact { nodes := hr.nodes.block (h12.block _ hr.nodes.lt (by rw [hr.cn]; omega)), cn := (h12.color _ hr.nodes.lt).trans hr.cn, ends := hr.ends.block (h12.block _ hr.ends.lt (by rw [hr.ce]; omega)), ce := (h12.color _ hr.ends.lt).trans hr.ce,
            nd := fun n hn => (hr.nd n hn).keep h12 (by omega) (by omega), blks := hr.blks,
            st := by
              have := h1.keep hk (by omega)
              simpa using this
            od := hr.od.keep h12 (by omega), ev := hr.ev.keep h12 (by omega), rj := hr.rj.keep h12 (by omega), evis := fun e he => (hr.evis e he).move hm, now := hr.now.move hm,
            small := ⟨hr.small.1, by simp; omega, hr.small.2.2.1, hr.small.2.2.2.1, hr.small.2.2.2.2.1, hr.small.2.2.2.2.2⟩ }
  · obtain ⟨m, hm⟩ := h3.max
    refine ⟨m, ?_⟩
    rw [cell_of_block (setCell_block (fun e => by have := h3.c0; rw [e, hR] at this; omega))]
    exact hm
/-- The room behind an append onto its events. -/
theorem RmIs.appEv {w w' : World} {col : Col} {k R : Nat} {r : Rm} (h : RmIs w col k R r) (hcol : Std w col) (v : SV) (e : EV) (he : EvIs w col e)
    (hrow : w'.ownsRow 0 38 22 (sv v) (r.evs.length + 1) ((r.evs ++ [e]).flatMap fun e => e.cells.toList)) (hg : w.grownBy w' (sv r.ev).ownBlock)
    (hb : (sv v).ownBlock = (sv r.ev).ownBlock ∨ (sv v).ownBlock = some w.heap.size) (hl : r.evs.length < 4096) :
    ∃ col', RmIs (w'.setCell ⟨R, 4, none⟩ (sv v)) col' k R { r with ev := v, evs := r.evs ++ [e] } ∧ Std (w'.setCell ⟨R, 4, none⟩ (sv v)) col' ∧ Keep w col (w'.setCell ⟨R, 4, none⟩ (sv v)) col' (outC k) := by
  obtain ⟨col', h1, h2, h3⟩ := OwnC.app h.rest.ev hrow hg hb (by omega) hcol
  have hR : col' R = k + 1 := (h2.color R h.lt).trans h.cR
  have hk : Keep w' col' (w'.setCell ⟨R, 4, none⟩ (sv v)) col' (fun c => c ≠ k + 1) := by
    have := keep_setCell (w := w') (col := col') (g := R) (o := 4) (v := sv v)
    rw [hR] at this; exact this
  have hbox : w'.heap[R]? = some (.cells r.cells 60 (0, 0)) := (h2.block R h.lt (by rw [h.cR]; omega)).trans h.box
  have h12 : Keep w col (w'.setCell ⟨R, 4, none⟩ (sv v)) col' (fun c => c ≠ k + 7 ∧ c ≠ k + 1) := (h2.imp (fun _ h => h.1)).trans (hk.imp (fun _ h => h.2))
  have hm := h12.move (by omega)
  have hr := h.rest
  refine ⟨col', ⟨setCell_row hbox, hR, ?_⟩, ⟨fun b hb => h3.ok b (by rw [setCell_hsize] at hb; exact hb), ?_, h3.c0⟩, h12.imp (fun c hc => by unfold outC at hc; omega)⟩
  · exact { nodes := hr.nodes.block (h12.block _ hr.nodes.lt (by rw [hr.cn]; omega)), cn := (h12.color _ hr.nodes.lt).trans hr.cn, ends := hr.ends.block (h12.block _ hr.ends.lt (by rw [hr.ce]; omega)), ce := (h12.color _ hr.ends.lt).trans hr.ce,
            nd := fun n hn => (hr.nd n hn).keep h12 (by omega) (by omega), blks := hr.blks, st := hr.st.keep h12 (by omega),
            od := hr.od.keep h12 (by omega)
            ev := by
              have := h1.keep hk (by omega)
              simpa using this
            rj := hr.rj.keep h12 (by omega), evis := fun x hx => by
              rcases List.mem_append.1 hx with h | h
              · exact (hr.evis x h).move hm
              · rw [List.mem_singleton.1 h]; exact he.move hm
            now := hr.now.move hm,
            small := ⟨hr.small.1, hr.small.2.1, hr.small.2.2.1, by simp; omega, hr.small.2.2.2.2.1, hr.small.2.2.2.2.2⟩ }
  · obtain ⟨m, hm⟩ := h3.max
    refine ⟨m, ?_⟩
    rw [cell_of_block (setCell_block (fun e => by have := h3.c0; rw [e, hR] at this; omega))]
    exact hm
end Go.Proofs.YtmjclmmiljlahaaGreat

set_option linter.unusedVariables false
set_option linter.unusedSimpArgs false
namespace Go.Proofs.YtmjclmmiljlahaaGreat
open Go.RowKit

theorem RmIs.keepSet {w : World} {col : Col} {k R : Nat} {r : Rm} (h : RmIs w col k R r) (o : Nat) (v : Value) : Keep w col (w.setCell ⟨R, o, none⟩ v) col (fun c => c ≠ k + 1) := by
  have := keep_setCell (w := w) (col := col) (g := R) (o := o) (v := v)
  rw [h.cR] at this; exact this
theorem RmIs.setTop {w : World} {col : Col} {k R : Nat} {r : Rm} (h : RmIs w col k R r) (t : Int) : RmIs (w.setCell ⟨R, 9, none⟩ (.int .i64 t)) col k R { r with top := t } :=
  have hr := h.rest.keep (h.keepSet 9 (.int .i64 t)) (fun c hc => by rcases hc with h | h <;> omega)
  ⟨setCell_row h.box, h.cR, { nodes := hr.nodes, cn := hr.cn, ends := hr.ends, ce := hr.ce, nd := hr.nd, blks := hr.blks, st := hr.st, od := hr.od, ev := hr.ev, rj := hr.rj, evis := hr.evis, now := hr.now, small := hr.small }⟩
theorem RmIs.setStale {w : World} {col : Col} {k R : Nat} {r : Rm} (h : RmIs w col k R r) (b : Bool) : RmIs (w.setCell ⟨R, 8, none⟩ (.bool b)) col k R { r with stale := b } :=
  have hr := h.rest.keep (h.keepSet 8 (.bool b)) (fun c hc => by rcases hc with h | h <;> omega)
  ⟨setCell_row h.box, h.cR, { nodes := hr.nodes, cn := hr.cn, ends := hr.ends, ce := hr.ce, nd := hr.nd, blks := hr.blks, st := hr.st, od := hr.od, ev := hr.ev, rj := hr.rj, evis := hr.evis, now := hr.now, small := hr.small }⟩
theorem Std.keep {w w' : World} {col : Col} {p : Nat → Prop} (h : Std w col) (hk : Keep w col w' col p) (h0 : p 0) : Std w' col := by
  refine ⟨fun b hb => h.ok b (Nat.le_trans hk.size hb), ?_, h.c0⟩
  obtain ⟨m, hm⟩ := h.max
  exact ⟨m, by rw [cell_of_block (hk.block 0 h.pos (by rw [h.c0]; exact h0))]; exact hm⟩
end Go.Proofs.YtmjclmmiljlahaaGreat

set_option linter.unusedVariables false
set_option linter.unusedSimpArgs false
namespace Go.Proofs.YtmjclmmiljlahaaGreat
open Go.RowKit

abbrev setKV (l : List ByteArray) : List (ByteArray × Value) := l.map fun s => (s, .bool true)
theorem setKV_keys (l : List ByteArray) : (setKV l).map (·.1) = l := by simp [setKV, Function.comp_def]
def delE (l : List ByteArray) (x : ByteArray) : List ByteArray := match posOf x l with | some i => l.eraseIdx i | none => l
def putE (l : List ByteArray) (x : ByteArray) : List ByteArray := match posOf x l with | some _ => l | none => l ++ [x]
theorem delKV_set (l : List ByteArray) (x : ByteArray) : delKV (setKV l) x = setKV (delE l x) := by
  unfold delKV delE
  rw [setKV_keys]
  cases posOf x l with
  | none => rfl
  | some i => exact (map_eraseIdx' _ l i).symm
theorem putKV_set (l : List ByteArray) (x : ByteArray) : putKV (setKV l) x (.bool true) = setKV (putE l x) := by
  unfold putKV putE
  rw [setKV_keys]
  cases posOf x l with
  | none => simp [setKV]
  | some i =>
    apply List.ext_getElem?
    intro j
    simp only [setKV, List.getElem?_modify, List.getElem?_map]
    by_cases h : i = j
    · subst h; cases l[i]? <;> simp
    · simp [h]

/-- The room behind a change of its ends' map. -/
theorem RmIs.setEnds {w : World} {col : Col} {k R : Nat} {r : Rm} (h : RmIs w col k R r) (o : Obj) (l : List ByteArray) (hm : MapIs Value.string (World.setObj' w r.em o) r.em (setKV l)) :
    RmIs (World.setObj' w r.em o) col k R { r with ends := l } ∧ Keep w col (World.setObj' w r.em o) col (fun c => c ≠ k + 3) := by
  have hk : Keep w col (World.setObj' w r.em o) col (fun c => c ≠ k + 3) := by
    have := keep_setObj (w := w) (col := col) (g := r.em) (o := o)
    rw [h.rest.ce] at this; exact this
  have hr := h.rest
  have hmv := hk.move (by omega)
  refine ⟨⟨(hk.block R h.lt (by rw [h.cR]; omega)).trans h.box, h.cR, ?_⟩, hk⟩
  exact { nodes := hr.nodes.block (hk.block _ hr.nodes.lt (by rw [hr.cn]; omega)), cn := hr.cn, ends := hm, ce := hr.ce, nd := fun n hn => (hr.nd n hn).keep hk (by omega) (by omega), blks := hr.blks, st := hr.st.keep hk (by omega), od := hr.od.keep hk (by omega), ev := hr.ev.keep hk (by omega), rj := hr.rj.keep hk (by omega), evis := fun e he => (hr.evis e he).move hmv, now := hr.now.move hmv, small := hr.small }
end Go.Proofs.YtmjclmmiljlahaaGreat

set_option linter.unusedVariables false
set_option linter.unusedSimpArgs false
namespace Go.Proofs.YtmjclmmiljlahaaGreat
open Go.RowKit

theorem same_blk : ∀ {l : List Nd}, (l.map Nd.blk).Nodup → ∀ {x n : Nd}, x ∈ l → n ∈ l → x.blk = n.blk → x = n
  | [], _, _, _, hx, _, _ => (List.not_mem_nil hx).elim
  | a :: l, h, x, n, hx, hn, e => by
    rw [List.map_cons, List.nodup_cons] at h
    rcases List.mem_cons.1 hx with hx2 | hx2
    · rcases List.mem_cons.1 hn with hn2 | hn2
      · exact hx2.trans hn2.symm
      · exact (h.1 (List.mem_map.2 ⟨n, hn2, by rw [← hx2]; exact e.symm⟩)).elim
    · rcases List.mem_cons.1 hn with hn2 | hn2
      · exact (h.1 (List.mem_map.2 ⟨x, hx2, by rw [← hn2]; exact e⟩)).elim
      · exact same_blk h.2 hx2 hn2 e
/-- A node's values, turned. -/
def Rm.setNd (r : Rm) (n' : Nd) : Rm := { r with ns := r.ns.map fun x => if x.blk = n'.blk then n' else x }

theorem RmIs.setNode {w : World} {col : Col} {k R : Nat} {r : Rm} (h : RmIs w col k R r) {n n' : Nd} (hn : n ∈ r.ns) (hb : n'.blk = n.blk) (he : n'.e = n.e) {o : Nat} {v : Value} (hc : n.cells.setIfInBounds o v = n'.cells)
    (h1 : EnSl w col n'.before n'.bl) (h2 : EnSl w col n'.after n'.al) :
    RmIs (w.setCell ⟨n.blk, o, none⟩ v) col k R (r.setNd n') ∧ Keep w col (w.setCell ⟨n.blk, o, none⟩ v) col (fun c => c ≠ k + 4) := by
  have hnd := h.rest.nd n hn
  have hk : Keep w col (w.setCell ⟨n.blk, o, none⟩ v) col (fun c => c ≠ k + 4) := by
    have := keep_setCell (w := w) (col := col) (g := n.blk) (o := o) (v := v)
    rw [hnd.cl] at this; exact this
  have hr := h.rest
  have hmv := hk.move (by omega)
  have hids : (r.setNd n').ns.map (fun n => (n.id, Value.pointer (some ⟨n.blk, 0, none⟩))) = r.ns.map fun n => (n.id, Value.pointer (some ⟨n.blk, 0, none⟩)) := by
    unfold Rm.setNd
    rw [List.map_map]
    refine List.map_congr_left fun x hx => ?_
    simp only [Function.comp]
    split
    · rename_i e
      have := same_blk hr.blks hx hn (e.trans hb)
      subst this
      simp [Nd.id, he, hb]
    · rfl
  have hbl : (r.setNd n').ns.map Nd.blk = r.ns.map Nd.blk := by
    unfold Rm.setNd
    rw [List.map_map]
    refine List.map_congr_left fun x hx => ?_
    simp only [Function.comp]
    split
    · rename_i e; exact e.symm
    · rfl
  refine ⟨⟨(hk.block R h.lt (by rw [h.cR]; omega)).trans h.box, h.cR, ?_⟩, hk⟩
  exact { nodes := by rw [hids]; exact hr.nodes.block (hk.block _ hr.nodes.lt (by rw [hr.cn]; omega)), cn := hr.cn, ends := hr.ends.block (hk.block _ hr.ends.lt (by rw [hr.ce]; omega)), ce := hr.ce,
          nd := fun x hx => by
            obtain ⟨y, hy, rfl⟩ := List.mem_map.1 hx
            split
            · refine ⟨by rw [hb, setCell_row hnd.box, hc], by rw [hb]; exact hnd.cl, by rw [he]; exact hnd.ev.move hmv, h1.move hmv, h2.move hmv⟩
            · rename_i e
              have hyd := hr.nd y hy
              exact ⟨(setCell_block (fun e2 => e (e2.trans hb.symm))).trans hyd.box, hyd.cl, hyd.ev.move hmv, hyd.before.move hmv, hyd.after.move hmv⟩
          blks := by rw [hbl]; exact hr.blks
          st := hr.st.keep hk (by omega), od := hr.od.keep hk (by omega), ev := hr.ev.keep hk (by omega), rj := hr.rj.keep hk (by omega), evis := fun e he => (hr.evis e he).move hmv, now := hr.now.move hmv,
          small := ⟨by simp [Rm.setNd]; exact hr.small.1, hr.small.2⟩ }
end Go.Proofs.YtmjclmmiljlahaaGreat

set_option linter.unusedVariables false
set_option linter.unusedSimpArgs false
namespace Go.Proofs.YtmjclmmiljlahaaGreat
open Go.RowKit

/-- A node's data, turned. -/
def RmD.setNd (d : RmD) (x : NdD) : RmD := { d with ns := d.ns.map fun y => if y.e.id = x.e.id then x else y }

theorem RmIs.ids {w : World} {col : Col} {k R : Nat} {r : Rm} (h : RmIs w col k R r) : (r.ns.map Nd.id).Nodup := by
  obtain ⟨_, _, _, _, hn, _⟩ := h.rest.nodes
  simpa [List.map_map, Function.comp_def] using hn
theorem same_id : ∀ {l : List Nd}, (l.map Nd.id).Nodup → ∀ {x n : Nd}, x ∈ l → n ∈ l → x.id = n.id → x = n
  | [], _, _, _, hx, _, _ => (List.not_mem_nil hx).elim
  | a :: l, h, x, n, hx, hn, e => by
    rw [List.map_cons, List.nodup_cons] at h
    rcases List.mem_cons.1 hx with hx2 | hx2
    · rcases List.mem_cons.1 hn with hn2 | hn2
      · exact hx2.trans hn2.symm
      · exact (h.1 (List.mem_map.2 ⟨n, hn2, by rw [← hx2]; exact e.symm⟩)).elim
    · rcases List.mem_cons.1 hn with hn2 | hn2
      · exact (h.1 (List.mem_map.2 ⟨x, hx2, by rw [← hn2]; exact e⟩)).elim
      · exact same_id h.2 hx2 hn2 e
theorem setNd_d {w : World} {col : Col} {k R : Nat} {r : Rm} (h : RmIs w col k R r) {n n' : Nd} (hn : n ∈ r.ns) (hb : n'.blk = n.blk) (he : n'.e = n.e) : (r.setNd n').d = r.d.setNd n'.d := by
  unfold Rm.setNd RmD.setNd Rm.d
  simp only [List.map_map]
  congr 1
  refine List.map_congr_left fun x hx => ?_
  simp only [Function.comp]
  have h1 : x.blk = n'.blk ↔ x = n := ⟨fun e => same_blk h.rest.blks hx hn (e.trans hb), fun e => by rw [e, hb]⟩
  have h2 : x.d.e.id = n'.d.e.id ↔ x = n := ⟨fun e => same_id h.ids hx hn (by
    have : x.id = n'.e.d.id := e
    rw [this, he]; rfl), fun e => by rw [e]; show n.e.d.id = n'.e.d.id; rw [he]⟩
  by_cases e : x = n
  · rw [if_pos (h1.2 e), if_pos (h2.2 e)]
  · rw [if_neg (fun q => e (h1.1 q)), if_neg (fun q => e (h2.1 q))]
theorem setNd_mem {r : Rm} {n n' : Nd} (hn : n ∈ r.ns) (hb : n'.blk = n.blk) : n' ∈ (r.setNd n').ns := by
  unfold Rm.setNd
  exact List.mem_map.2 ⟨n, hn, if_pos hb.symm⟩
theorem find_of_nodup : ∀ {l : List Nd}, (l.map Nd.id).Nodup → ∀ {n : Nd}, n ∈ l → (l.find? fun x => decide (x.id = n.id)) = some n
  | [], _, _, hn => (List.not_mem_nil hn).elim
  | a :: l, hd, n, hn => by
    rw [List.map_cons, List.nodup_cons] at hd
    rw [List.find?_cons]
    rcases List.mem_cons.1 hn with h1 | h1
    · simp [h1]
    · have e : ¬ a.id = n.id := fun e => hd.1 (List.mem_map.2 ⟨n, h1, e.symm⟩)
      simp only [e, decide_false]
      exact find_of_nodup hd.2 h1
theorem find_mem_of {w : World} {col : Col} {k R : Nat} {r : Rm} (h : RmIs w col k R r) {n : Nd} (hn : n ∈ r.ns) : r.find n.id = some n :=
  find_of_nodup h.ids hn

/-- What a call on a room leaves: the room, its data told. -/
structure JSt (w : World) (col : Col) (k R : Nat) (W : World) (col' : Col) (r' : Rm) : Prop where
  is : RmIs W col' k R r'
  std : Std W col'
  keep : Keep w col W col' (outC k)
theorem JSt.fresh {w W W' : World} {col col' : Col} {k R : Nat} {r' : Rm} (h : JSt w col k R W col' r') (hf : Fresh W W') : JSt w col k R W' col' r' :=
  ⟨h.is.fresh hf, h.std.fresh hf, h.keep.trans (Keep.ofFresh hf)⟩
theorem outC_ne {k c : Nat} (h : outC k c) : c ≠ k + 1 ∧ c ≠ k + 3 ∧ c ≠ k + 4 := by unfold outC at h; omega
/-- A change of a node's cell. -/
theorem JSt.setNode {w W : World} {col col' : Col} {k R : Nat} {r' : Rm} (h : JSt w col k R W col' r') {n n' : Nd} (hn : n ∈ r'.ns) (hb : n'.blk = n.blk) (he : n'.e = n.e) {o : Nat} {v : Value} (hc : n.cells.setIfInBounds o v = n'.cells)
    (h1 : EnSl W col' n'.before n'.bl) (h2 : EnSl W col' n'.after n'.al) :
    JSt w col k R (W.setCell ⟨n.blk, o, none⟩ v) col' (r'.setNd n') ∧ n' ∈ (r'.setNd n').ns ∧ (r'.setNd n').d = r'.d.setNd n'.d ∧ Keep W col' (W.setCell ⟨n.blk, o, none⟩ v) col' (fun c => c ≠ k + 4) := by
  obtain ⟨h3, h4⟩ := h.is.setNode hn hb he hc h1 h2
  exact ⟨⟨h3, h.std.keep h4 (by omega), h.keep.trans (h4.imp fun c hc => (outC_ne hc).2.2)⟩, setNd_mem hn hb, setNd_d h.is hn hb he, h4⟩
theorem JSt.start {w : World} {col : Col} {k R : Nat} {r : Rm} (h : RmIs w col k R r) (hcol : Std w col) : JSt w col k R w col r := ⟨h, hcol, Keep.refl _ _ _⟩

/-- What mark answers, and leaves, in whatever world. -/
def MarkD (d : RmD) (id : ByteArray) (m : Int) (d2 : RmD) : Prop :=
  ∀ (w : World) (col : Col) (k R : Nat) (r : Rm) (n : Nd), RmIs w col k R r → Std w col → r.d = d → n ∈ r.ns → n.id = id →
    Calls Tryz.prog 43 #[.pointer (some ⟨R, 0, none⟩), .pointer (some ⟨n.blk, 0, none⟩)] w fun x w' => x = .returned (.int .i64 m) ∧
      ∃ r' : Rm, RmIs w' col k R r' ∧ r'.d = d2 ∧ r'.ns = r.ns ∧ Std w' col ∧ Keep w col w' col (fun c => c ≠ k + 1)

/-- An event behind its judging. -/
def RmD.close (d : RmD) (e : Ev) (m : Int) : RmD :=
  let d1 : RmD := { d with order := d.order ++ [e.id], evs := d.evs ++ [e], top := max d.top e.depth }
  if m = 4 then { d1 with rejected := d1.rejected ++ [e.id] }
  else if m = 2 then { d1 with ends := putE (e.prev.foldl delE d1.ends) e.id, stale := true } else d1
def afterF (e : Ev) (m : Int) (bl : List En) : List En := if e.hk = true ∧ m ≠ 4 then bl ++ [⟨e.ty, e.key, e.id⟩] else bl
end Go.Proofs.YtmjclmmiljlahaaGreat

set_option linter.unusedVariables false
set_option linter.unusedSimpArgs false
namespace Go.Proofs.YtmjclmmiljlahaaGreat
open Go.RowKit

section
variable {P : Program} {ops : Array Oper} {Q : Exit → Act → World → Prop} {md : Region.Mode} {S : World → Prop} {last : Nat}

/-- Whatever order is picked from here on, and S holds behind every operation but the last. -/
def wpAnyT (P : Program) (md : Region.Mode) (ops : Array Oper) (Q : Exit → Act → World → Prop) (S : World → Prop) (last : Nat) : Nat → Array Bool → Act → World → Prop
  | 0, listed, a, w => Region.ready md ops listed = [] ∧ Q .normal a w
  | fuel + 1, listed, a, w =>
    (Region.ready md ops listed = [] → Q .normal a w) ∧
    ∀ i ∈ Region.ready md ops listed, wpOp P ops Q i (fun a' w' => (i ≠ last → S w') ∧ wpAnyT P md ops Q S last fuel (listed.setIfInBounds i true) a' w') a w

theorem wpAny_of_T : ∀ (fuel : Nat) (listed : Array Bool) (a : Act) (w : World), wpAnyT P md ops Q S last fuel listed a w → wpAny P md ops Q fuel listed a w
  | 0, _, _, _, h => h
  | fuel + 1, _, _, _, h => ⟨h.1, fun i hi => wpOp_mono (fun a' w' h' => wpAny_of_T fuel _ a' w' h'.2) (h.2 i hi)⟩

theorem wpAnyT_first {i : Nat} {oi : Oper} {v : Value} (hi : ops[i]? = some oi) (hsel : ∀ (j : Nat) (o : Oper) cs b, ops[j]? = some o → o.op ≠ .select cs b)
    (hQ : ∀ c a w, Q (.panic c) (a.put oi.dst v) w → Q (.panic c) a w) (hwl : Region.waitsFor md ops last i = true) :
    ∀ (fuel : Nat) (listed : Array Bool) (a : Act) (w : World),
      (∀ j oj, ops[j]? = some oj → j ≠ i → listed.getD j true = false → (∀ e ∈ oj.after, Region.binds md e = true → e.on ≠ i) → oi.apart ops oj = true) →
      i ∈ Region.ready md ops listed → YieldsIf P ops S oi v a → S w →
      wpAnyT P md ops Q S last fuel (listed.setIfInBounds i true) (a.put oi.dst v) w → wpAnyT P md ops Q S last (fuel + 1) listed a w := by
  intro fuel
  induction fuel with
  | zero =>
    intro listed a w _ hr hy hS H
    refine ⟨fun h => (by rw [h] at hr; cases hr), fun j hj => ?_⟩
    by_cases hji : j = i
    · subst hji; exact hy.wpOp hi hS ⟨fun _ => hS, H⟩
    · have := ready_mono hj hji
      rw [H.1] at this
      cases this
  | succ fuel ih =>
    intro listed a w hfree hr hy hS H
    refine ⟨fun h => (by rw [h] at hr; cases hr), fun j hj => ?_⟩
    by_cases hji : j = i
    · subst hji; exact hy.wpOp hi hS ⟨fun _ => hS, H⟩
    · have h1 := H.2 j (ready_mono hj hji)
      obtain ⟨hjun, oj, hoj, hall⟩ := mem_ready.1 hj
      have hnot : ∀ e ∈ oj.after, Region.binds md e = true → e.on ≠ i := fun e he hb heq => by
        have h1 := hall e he hb
        have h0 := (mem_ready.1 hr).1
        rw [heq] at h1
        rcases Nat.lt_or_ge i listed.size with h' | h'
        · simp [h'] at h0 h1; rw [h0] at h1; cases h1
        · simp [Array.getElem?_eq_none h'] at h1
      have hjl : j ≠ last := fun e => by
        obtain ⟨ol, hol, x, hx, hb, hon⟩ := Region.waitsFor_spec hwl
        subst e
        have : ol = oj := Option.some.inj (hol.symm.trans hoj)
        subst this
        exact hnot x hx hb hon
      have h2 := wpOp_putIf hoj (hfree j oj hoj hji hjun hnot) (fun cs b => hsel i oi cs b hi) (fun cs b => hsel j oj cs b hoj) hQ hy h1
      have hfree' : ∀ k ok, ops[k]? = some ok → k ≠ i → (listed.setIfInBounds j true).getD k true = false →
          (∀ e ∈ ok.after, Region.binds md e = true → e.on ≠ i) → oi.apart ops ok = true := fun k ok hk hki hun hno => by
        refine hfree k ok hk hki ?_ hno
        by_cases hjk : j = k
        · subst hjk; exact hjun
        · rw [getD_set_ne true hjk] at hun; exact hun
      refine wpOp_mono (fun a' w' h3 => ⟨h3.2.1, ih (listed.setIfInBounds j true) a' w' hfree' (ready_mono hr (Ne.symm hji)) h3.1 (h3.2.1 hjl) ?_⟩) h2
      rw [Array.setIfInBounds_comm _ _ hji]
      exact h3.2.2

theorem wpAnyT_take {i : Nat} {oi : Oper} {v : Value} {fuel : Nat} {listed : Array Bool} {a : Act} {w : World} (hi : ops[i]? = some oi)
    (hs : Region.noSelect ops = true) (hf : Region.free md ops listed i = true) (hr : (Region.ready md ops listed).contains i = true) (hwl : Region.waitsFor md ops last i = true)
    (hQ : ∀ c a w, Q (.panic c) (a.put oi.dst v) w → Q (.panic c) a w) (hy : YieldsIf P ops S oi v a) (hS : S w)
    (h : wpAnyT P md ops Q S last fuel (listed.setIfInBounds i true) (a.put oi.dst v) w) : wpAnyT P md ops Q S last (fuel + 1) listed a w :=
  wpAnyT_first hi (Region.noSelect_spec hs) hQ hwl fuel listed a w (Region.free_spec hi hf) (by simpa using hr) hy hS h

theorem wpAnyT_done {listed : Array Bool} {a : Act} {w : World} (hr : Region.ready md ops listed = []) (h : Q .normal a w) :
    ∀ fuel, wpAnyT P md ops Q S last fuel listed a w
  | 0 => ⟨hr, h⟩
  | _ + 1 => ⟨fun _ => h, by rw [hr]; simp⟩

/-- One operation alone may come up: it comes up, and S is shown anew. -/
theorem wpAnyT_step {i : Nat} {o : Oper} {fuel : Nat} {listed : Array Bool} {a : Act} {w : World} (hr : Region.ready md ops listed = [i]) (ho : ops[i]? = some o)
    (h : ∀ K' : Act → World → Prop, Shut (∀ a w, S w → (S w → wpAnyT P md ops Q S last fuel (listed.setIfInBounds i true) a w) → K' a w) → if Region.wanted o (yielded ops a.tmps) = true then Oper.wp P o a w K' Q else K' (a.put o.dst undef) w) :
    wpAnyT P md ops Q S last (fuel + 1) listed a w :=
  ⟨fun h0 => (by rw [hr] at h0; cases h0), fun j hj => by
    rw [hr] at hj
    have : j = i := by simpa using hj
    subst this
    exact wpOp_step ho (fun K' hK => h K' (fun a w hS hW => hK a w ⟨fun _ => hS, hW hS⟩))⟩
/-- The last operation comes up. -/
theorem wpAnyT_last {o : Oper} {fuel : Nat} {listed : Array Bool} {a : Act} {w : World} (hr : Region.ready md ops listed = [last]) (ho : ops[last]? = some o)
    (h : ∀ K' : Act → World → Prop, Shut (∀ a w, wpAnyT P md ops Q S last fuel (listed.setIfInBounds last true) a w → K' a w) → if Region.wanted o (yielded ops a.tmps) = true then Oper.wp P o a w K' Q else K' (a.put o.dst undef) w) :
    wpAnyT P md ops Q S last (fuel + 1) listed a w :=
  ⟨fun h0 => (by rw [hr] at h0; cases h0), fun j hj => by
    rw [hr] at hj
    have : j = last := by simpa using hj
    subst this
    exact wpOp_step ho (fun K' hK => h K' (fun a w hW => hK a w ⟨fun e => absurd rfl e, hW⟩))⟩

theorem wp_region_T {id : Nat} {a : Act} {w : World} (S : World → Prop) (last : Nat) (hm : P.follows .mixedOrders = true) (hS : S w.drew)
    (h : S w.drew → wpAnyT P .any ops Q S last ops.size (Array.replicate ops.size false) a w.drew) : (Code.region id ops true).wp P Q a w :=
  wp_region_any hm (wpAny_of_T _ _ _ _ (h hS))
end
end Go.Proofs.YtmjclmmiljlahaaGreat

set_option linter.unusedVariables false
set_option linter.unusedSimpArgs false
namespace Go.Proofs.YtmjclmmiljlahaaGreat
open Go.RowKit

theorem run_delete_map2 {κ : Type} [DecidableEq κ] {kt : TypeId} {K : κ → Value} {w : World} {b : Nat} {kvs : List (κ × Value)} (L : KeyLaw kt K) {t et t2 ty : TypeId} (ht : Tryz.prog.underlying t = some (.map kt et))
    (h : MapIs K w b kvs) (k : κ) :
    ∃ o, (Builtin.delete_ #[t, t2] ty #[.map (some b), K k]).run Tryz.prog w = .ok (.tuple #[]) (World.setObj' w b o) ∧ MapIs K (World.setObj' w b o) b (delKV kvs k) := by
  obtain ⟨o, h1, h2⟩ := run_delete_map (ty := ty) L ht h k
  exact ⟨o, h1, h2⟩

theorem wpList_delete_map {κ : Type} [DecidableEq κ] {kt : TypeId} {K : κ → Value} {w : World} {b : Nat} {kvs : List (κ × Value)} (L : KeyLaw kt K) {ops : Array Oper} {rest : List Oper} {o : Oper} {a : Act} {Q : Exit → Act → World → Prop} (hgd : o.guard = none) (x y : Operand) (t t2 et : TypeId)
    (ho : o.op = .call { callee := .builtin .delete, args := #[x, y], argTypes := #[t, t2] }) (ht : Tryz.prog.underlying t = some (.map kt et)) (hx : a.eval x = .map (some b)) (k : κ) (hy : a.eval y = K k)
    (h : MapIs K w b kvs) (hk : ∀ ob, MapIs K (World.setObj' w b ob) b (delKV kvs k) → wpList Tryz.prog ops Q rest (a.put o.dst (.tuple #[])) (World.setObj' w b ob)) : wpList Tryz.prog ops Q (o :: rest) a w := by
  refine wpList_plain hgd fun K' hK => ?_
  obtain ⟨ob, hr, h2⟩ := run_delete_map2 (ty := o.type) (t2 := t2) L ht h k
  unfold Oper.wp
  simp [execOp, ho, resolve, invoke, builtin, hx, hy, hr, Result.andThen]
  exact hK _ _ (hk ob h2)
end Go.Proofs.YtmjclmmiljlahaaGreat

set_option linter.unusedVariables false
set_option linter.unusedSimpArgs false
namespace Go.Proofs.YtmjclmmiljlahaaGreat
open Go.RowKit

/-- What resolve answers: this state, in new memory alone. -/
def ResPost (col : Col) (bl : List En) (W : World) (x : Ending) (w' : World) : Prop := ∃ b : SV, x = .returned (sv b) ∧ EnSl w' col b bl ∧ Fresh W w'
def StatesOk (w : World) (col : Col) (R : Nat) (bl : List En) (s : Value) (wx : World) : Prop :=
  ∃ (sa : Option Addr) (sn sc : Nat), s = .slice sa sn sc ∧ Hid (Fresh w wx) ∧ Hid (∀ W, Fresh wx W → Calls Tryz.prog 42 #[.pointer (some ⟨R, 0, none⟩), .slice sa sn sc] W (ResPost col bl W))
/-- Where a node lies. -/
def nkey (n : Nd) : ByteArray × Nat := (n.id, n.blk)
theorem setNd_key {w : World} {col : Col} {k R : Nat} {r : Rm} (h : RmIs w col k R r) {n n' : Nd} (hn : n ∈ r.ns) (hb : n'.blk = n.blk) (he : n'.e = n.e) : (r.setNd n').ns.map nkey = r.ns.map nkey := by
  unfold Rm.setNd
  simp only [List.map_map]
  refine List.map_congr_left fun x hx => ?_
  simp only [Function.comp]
  split
  · rename_i e
    have := same_blk h.rest.blks hx hn (e.trans hb)
    subst this
    unfold nkey Nd.id
    rw [he, hb]
  · rfl
/-- A room in whose nodes this one stands. -/
def JAt (w : World) (col : Col) (k R : Nat) (L : List (ByteArray × Nat)) (blk : Nat) (e : EV) (m : Int) (D : RmD) (W : World) : Prop :=
  ∃ (col' : Col) (r' : Rm) (b : SV) (bl : List En) (a : SV) (al : List En), JSt w col k R W col' r' ∧ (⟨blk, e, m, b, bl, a, al⟩ : Nd) ∈ r'.ns ∧ r'.ns.map nkey = L ∧ r'.d = D

theorem setNd_twice {d : RmD} {x y : NdD} (h : x.e.id = y.e.id) : (d.setNd x).setNd y = d.setNd y := by
  unfold RmD.setNd
  simp only [List.map_map]
  congr 1
  refine List.map_congr_left fun z _ => ?_
  simp only [Function.comp]
  by_cases e : z.e.id = x.e.id
  · rw [if_pos e, if_pos h, if_pos (e.trans h)]
  · rw [if_neg e]

theorem RmIs.grown {w w' : World} {col : Col} {k R : Nat} {r : Rm} (h : RmIs w col k R r) {c e size n : Nat} {v : SV} {cs : List Value} (ho : OwnC w col c e size v n cs) (hc : k + 4 < c) (hg : w.grownBy w' (sv v).ownBlock) :
    w'.heap[R]? = w.heap[R]? ∧ ∀ n ∈ r.ns, w'.heap[n.blk]? = w.heap[n.blk]? :=
  ⟨hg.block _ h.lt (fun e => by have := ho.cl _ e.symm; rw [h.cR] at this; omega), fun n hn => hg.block _ (h.rest.nd n hn).lt (fun e => by have := ho.cl _ e.symm; rw [(h.rest.nd n hn).cl] at this; omega)⟩

set_option maxRecDepth 10000 in
set_option maxHeartbeats 3200000 in
/-- Room.judge, of an event with one event ahead or none. -/
theorem judge_any {w : World} {col : Col} {k R : Nat} {r : Rm} (h : RmIs w col k R r) (hcol : Std w col) (n : Nd) (hn : n ∈ r.ns) (bl : List En)
    (hpv : (n.e.d.prev = [] ∧ ∀ W, Fresh w W → Calls Tryz.prog 42 #[.pointer (some ⟨R, 0, none⟩), .slice none 0 0] W (ResPost col bl W)) ∨ ∃ p np, n.e.d.prev = [p] ∧ r.find p = some np ∧ np.al = bl)
    (m : Int) (hm : m = 2 ∨ m = 4) (d2 : RmD) (hmark : MarkD (r.d.setNd ⟨n.e.d, n.mark, bl, n.al⟩) n.id m d2)
    (hput : n.e.d.hk = true → m ≠ 4 → bl = [] ∨ ∃ x, bl = [x] ∧ Op.bytesLess x.ty.toList n.e.d.ty.toList = true)
    (hd2 : d2.order.length < 4096 ∧ d2.evs.length < 4096 ∧ d2.rejected.length < 4096) :
    Calls Tryz.prog 27 #[.pointer (some ⟨R, 0, none⟩), .pointer (some ⟨n.blk, 0, none⟩)] w fun x w' => x = .returned (.tuple #[]) ∧ ∃ col' r', JSt w col k R w' col' r' ∧ r'.ns.map nkey = r.ns.map nkey ∧ r'.d = (d2.setNd ⟨n.e.d, m, bl, afterF n.e.d m bl⟩).close n.e.d m := by
  have hnd := h.rest.nd n hn
  have hpn : n.e.prev.n = n.e.d.prev.length := len_zero hnd.ev.prev
  obtain ⟨pa, pn, pc, hpe⟩ : ∃ pa pn pc, n.e.prev = ⟨pa, pn, pc⟩ := ⟨_, _, _, rfl⟩
  have e6 : w.cell? ⟨n.blk, 6, none⟩ = some (.slice pa pn pc) := by
    have h2 : w.cell? ⟨n.blk, 6, none⟩ = some (.slice n.e.prev.a n.e.prev.n n.e.prev.c) := (hnd.at_ 6).trans rfl
    rw [hpe] at h2; exact h2
  have hpl : pn = n.e.d.prev.length := by rw [← hpn, hpe]
  have hps := hnd.ev.prev
  rw [hpe] at hps
  have hsmall : pn ≤ 4294967296 := by rw [hpl]; exact hps.2.1
  have H := Lib.hid h; have Hn := Lib.hid hn; have Hpv := Lib.hid hpv; have Hm := Lib.hid hm; have Hmark := Lib.hid hmark; have Hput := Lib.hid hput; have Hd2 := Lib.hid hd2
  have Hpl := Lib.hid hpl; have Hps := Lib.hid hps; have Hpe := Lib.hid hpe
  clear h hn hpv hm hmark hput hd2 hnd hpn hpl hps hpe
  go_enter Tryz.func27, Tryz.ntmps27
  go_upto_block 0 with fail
  go_cut [4] from 6 to 31 (fun s wx => StatesOk w col R bl s wx)
  case first =>
    rcases Hpv.out with ⟨h1, h2⟩ | ⟨p, np, h1, h2, h3⟩
    · have hp0 : pn = 0 := by rw [Hpl.out, h1]; rfl
      subst hp0
      have H2 := Lib.hid h2
      clear h2 Hpl Hps Hpe Hpv h1
      go_wp2_with fail
      go_loopw [15, 4] (fun i s wr => i = .int .i64 0 ∧ s = .slice none 0 0 ∧ wr = w) (fun _ _ _ => 0)
      case atStart => exact ⟨rfl, rfl, rfl⟩
      case round =>
        obtain ⟨rfl, rfl, rfl⟩ := hrel
        go_wp2_with fail
        go_meet
        exact ⟨none, 0, 0, rfl, Fresh.rfl' _, H2.out⟩
    · have hp1 : pn = 1 := by rw [Hpl.out, h1]; rfl
      subst hp1
      obtain ⟨ao, cap, hv2, hcp, _, _, hj⟩ := Hps.out.open
      rw [h1] at hv2 hcp hj
      obtain ⟨b, off, rfl, hb, hcell⟩ := hj 0 (by simp)
      simp only [Value.slice.injEq, List.length_cons, List.length_nil, Nat.zero_add] at hv2
      obtain ⟨rfl, _, rfl⟩ := hv2
      simp only [Nat.add_zero, List.getElem_cons_zero] at hcell
      simp only [List.length_cons, List.length_nil, Nat.zero_add] at hcp
      have HNp := Lib.hid h2; have Hal := Lib.hid h3
      clear hj Hpl Hps Hpe Hpv h1 h2 h3
      go_wp2_with fail
      go_loopw [15, 4] (fun i s wr => (i = .int .i64 0 ∧ s = .slice none 0 0 ∧ wr = w) ∨ (i = .int .i64 1 ∧ ∃ g cap, s = .slice (some ⟨g, 0, none⟩) 1 cap ∧ 1 ≤ cap ∧ Hid (wr.cell? ⟨g, 0, none⟩ = some (sv np.after)) ∧ Hid (Fresh w wr))) (fun i _ _ => 1 - (intOf i).toNat)
      case atStart => exact .inl ⟨rfl, rfl, rfl⟩
      case round =>
        rcases hrel with ⟨rfl, rfl, rfl⟩ | ⟨rfl, g, cap, rfl, hcap, hcl, hfr⟩
        · have hl := look_node H.out p
          rw [HNp.out] at hl
          dsimp only at hl
          have h1 := H.out.c1
          have hnd : wr.cell? ⟨np.blk, 24, none⟩ = some (.slice np.after.a np.after.n np.after.c) := ((H.out.rest.nd np (Rm.find_mem HNp.out).1).at_ 24).trans rfl
          go_wp2_with (at_builtin; refine Stand.stop ?_)
          refine Stand.go ?_
          refine wpList_append_src _ rfl _ _ 85 85 rfl wr.heap.size 48 _ 1 24 Tryz.underlying85 info48 rfl (by decide) (.slice none 0 0) 0 [] rfl (World.ownsRow_nil _ _ _ _) (.slice (some ⟨wr.heap.size, 0, none⟩) 1 1) 1 [.slice np.after.a np.after.n np.after.c] rfl
            (src_one _ _ _ Tryz.underlying85 (heap_alloc_new _ _) rfl) (by unfold maxLen; omega) (by omega) (by simp) ?_
          intro v' w' hown hg _
          rcases hown.2 with ⟨_, h2⟩ | ⟨g, cap, cur, rfl, hg2, hh, hnc, hcm, hs, ht⟩
          · simp at h2
          have hcl : w'.cell? ⟨g, 0, none⟩ = some (sv np.after) := by rw [World.ownsRow.cellAt hown 0 (by omega)]; rfl
          have hfr : Fresh wr w' := ((Fresh.rfl' wr).alloc (Nat.le_refl _) _).grown hg (by simp) (by intro k hk; simp [Value.ownBlock] at hk)
          have Hcl := Lib.hid hcl; have Hfr := Lib.hid hfr
          clear hown hg hh hs ht hcl hfr
          go_wp2_with fail
          go_roundw
          case rel => first | exact .inr ⟨rfl, g, cap, rfl, by omega, Hcl, Hfr⟩ | ((repeat apply Exists.intro); exact ⟨.inr ⟨rfl, g, cap, rfl, by omega, Hcl⟩, rfl, rfl, rfl⟩)
          case measure => decide
        · go_wp2_with fail
          go_meet
          refine ⟨_, _, _, rfl, hfr, fun W hW => (resolve_one R g 0 cap np.after (hW.keep hcl.out) hcap).mono ?_⟩
          rintro y w2 ⟨rfl, rfl⟩
          refine ⟨np.after, rfl, ?_, Fresh.rfl' _⟩
          rw [← Hal.out]
          exact ((H.out.fresh (fcomp hfr.out hW)).rest.nd np (Rm.find_mem HNp.out).1).after
  clear e6 Hpv
  obtain ⟨sa, sn, sc, rfl, hf, hres⟩ := hcut
  go_wp2_with fail
  refine (hres.out _ (Fresh.rfl' _)).mono ?_
  rintro x w1 ⟨⟨ba, bn, bc⟩, rfl, hb, hf1⟩
  have JS0 : Hid (JSt w col k R w1 col r) := (JSt.start H.out hcol).fresh (fcomp hf.out hf1)
  have NN := JS0.out.is.rest.nd n Hn.out
  have hs1 := JS0.out.setNode (n' := ⟨n.blk, n.e, n.mark, ⟨ba, bn, bc⟩, bl, n.after, n.al⟩) Hn.out rfl rfl (o := 23) (v := .slice ba bn bc) rfl hb NN.after
  have c23 : w1.cell? ⟨n.blk, 23, none⟩ = some (.slice n.before.a n.before.n n.before.c) := (NN.at_ 23).trans rfl
  have z23 := NN.fz 23
  have HS1 := Lib.hid hs1
  clear hs1 NN hb hf hf1 hres
  go_wp2_with fail
  have hmk := Hmark.out _ col k R _ _ HS1.out.1.is HS1.out.1.std HS1.out.2.2.1 HS1.out.2.1 rfl
  dsimp only at hmk
  refine hmk.mono ?_
  rintro x w2 ⟨rfl, r2, hr2, hdd2, hns2, hstd2, hk2⟩
  have JS2 : Hid (JSt w col k R w2 col r2) := ⟨hr2, hstd2, HS1.out.1.keep.trans (hk2.imp fun c hc => (outC_ne hc).1)⟩
  have hn2 : (⟨n.blk, n.e, n.mark, ⟨ba, bn, bc⟩, bl, n.after, n.al⟩ : Nd) ∈ r2.ns := by rw [hns2]; exact HS1.out.2.1
  have HK2 : Hid (r2.ns.map nkey = r.ns.map nkey) := by
    show r2.ns.map nkey = r.ns.map nkey
    rw [hns2]
    exact setNd_key JS0.out.is Hn.out rfl rfl
  have Hn2 := Lib.hid hn2; have Hdd2 := Lib.hid hdd2
  have NN2 := JS2.out.is.rest.nd _ hn2
  have e22 : w2.cell? ⟨n.blk, 22, none⟩ = some (.int .i64 n.mark) := (NN2.at_ 22).trans rfl
  have e23 : w2.cell? ⟨n.blk, 23, none⟩ = some (.slice ba bn bc) := (NN2.at_ 23).trans rfl
  have e24 : w2.cell? ⟨n.blk, 24, none⟩ = some (.slice n.after.a n.after.n n.after.c) := (NN2.at_ 24).trans rfl
  have z22 : w2.frozen? ⟨n.blk, 22, none⟩ = false := NN2.fz 22
  have z24 : w2.frozen? ⟨n.blk, 24, none⟩ = false := NN2.fz 24
  clear hmk hr2 hdd2 hns2 hstd2 hk2 hn2 c23 z23
  go_upto_region 9 with fail
  go_cut [62] from 51 to 86 (fun b wx => b = .bool (n.e.d.hk && !decide (m = 4)) ∧ wx = (w2.setCell ⟨n.blk, 22, none⟩ (.int .i64 m)).setCell ⟨n.blk, 24, none⟩ (.slice ba bn bc))
  case first =>
    have e4 : w2.cell? ⟨n.blk, 4, none⟩ = some (.bool n.e.d.hk) := (NN2.at_ 4).trans rfl
    clear NN2
    rcases Hm.out with rfl | rfl
    all_goals
      cases hk : n.e.d.hk
      all_goals
        rw [hk] at e4
        have Hk := Lib.hid hk
        clear hk
        go_wp2_with fail
        go_meet
        exact ⟨by simp [Hk.out], rfl⟩
  obtain ⟨rfl, rfl⟩ := hcut
  refine hideWorld _ (fun W => ∃ r4 : Rm, JSt w col k R W col r4 ∧ (⟨n.blk, n.e, m, ⟨ba, bn, bc⟩, bl, ⟨ba, bn, bc⟩, bl⟩ : Nd) ∈ r4.ns ∧ r4.ns.map nkey = r.ns.map nkey ∧ r4.d = d2.setNd ⟨n.e.d, m, bl, bl⟩) _ ?_ ?_
  · have hs3 := JS2.out.setNode (n' := ⟨n.blk, n.e, m, ⟨ba, bn, bc⟩, bl, n.after, n.al⟩) Hn2.out rfl rfl (o := 22) (v := .int .i64 m) rfl NN2.before NN2.after
    have hmv := hs3.2.2.2.move (by omega)
    have hs4 := hs3.1.setNode (n' := ⟨n.blk, n.e, m, ⟨ba, bn, bc⟩, bl, ⟨ba, bn, bc⟩, bl⟩) hs3.2.1 rfl rfl (o := 24) (v := .slice ba bn bc) rfl (EnSl.move NN2.before hmv) (EnSl.move NN2.before hmv)
    refine ⟨_, hs4.1, hs4.2.1, (setNd_key (n' := ⟨n.blk, n.e, m, ⟨ba, bn, bc⟩, bl, ⟨ba, bn, bc⟩, bl⟩) hs3.1.is hs3.2.1 rfl rfl).trans ((setNd_key (n' := ⟨n.blk, n.e, m, ⟨ba, bn, bc⟩, bl, n.after, n.al⟩) JS2.out.is Hn2.out rfl rfl).trans HK2.out), ?_⟩
    rw [hs4.2.2.1, hs3.2.2.1, Hdd2.out]
    exact setNd_twice rfl
  rintro W4 ⟨r4, hjs4, hn4, hk4, hd4⟩
  have HJ4 := Lib.hid hjs4; have Hn4 := Lib.hid hn4; have Hd4 := Lib.hid hd4; have Hk4 := Lib.hid hk4
  clear hjs4 hn4 hd4 hk4 NN2 JS2 Hn2 Hdd2 HS1 JS0 e22 e23 e24 z22 z24
  generalize hB : (n.e.d.hk && !decide (m = 4)) = B
  have HB := Lib.hid hB
  clear hB
  go_upto_if 62 with fail
  go_cut [] from 63 to 86 (fun wx => JAt w col k R (r.ns.map nkey) n.blk n.e m (d2.setNd ⟨n.e.d, m, bl, afterF n.e.d m bl⟩) wx)
  case first =>
    cases B
    · have haf : afterF n.e.d m bl = bl := by
        unfold afterF
        refine if_neg (fun h => ?_)
        have := HB.out
        rw [h.1] at this
        simp at this
        exact h.2 this
      have Haf := Lib.hid haf
      clear haf
      go_wp2_with fail
      go_meet
      exact ⟨col, r4, _, _, _, _, HJ4.out, Hn4.out, Hk4.out, by rw [Haf.out]; exact Hd4.out⟩
    · have hbb := HB.out
      simp only [Bool.and_eq_true, Bool.not_eq_true', decide_eq_false_iff_not] at hbb
      have haf : afterF n.e.d m bl = bl ++ [⟨n.e.d.ty, n.e.d.key, n.e.d.id⟩] := if_pos hbb
      have hl := Hput.out hbb.1 hbb.2
      have Haf := Lib.hid haf
      have NN := HJ4.out.is.rest.nd _ Hn4.out
      have g23 : W4.cell? ⟨n.blk, 23, none⟩ = some (.slice ba bn bc) := (NN.at_ 23).trans rfl
      have g1 : W4.cell? ⟨n.blk, 1, none⟩ = some (.string n.e.d.ty) := (NN.at_ 1).trans rfl
      have g5 : W4.cell? ⟨n.blk, 5, none⟩ = some (.string n.e.d.key) := (NN.at_ 5).trans rfl
      have g0 : W4.cell? ⟨n.blk, 0, none⟩ = some (.string n.e.d.id) := (NN.at_ 0).trans rfl
      have hS : ∀ W, Fresh W4 W → W.cell? ⟨n.blk, 23, none⟩ = some (.slice ba bn bc) ∧ W.cell? ⟨n.blk, 1, none⟩ = some (.string n.e.d.ty) ∧ W.cell? ⟨n.blk, 5, none⟩ = some (.string n.e.d.key) ∧ W.cell? ⟨n.blk, 0, none⟩ = some (.string n.e.d.id) := fun W hW => ⟨hW.keep g23, hW.keep g1, hW.keep g5, hW.keep g0⟩
      have HS := Lib.hid hS; have Hl := Lib.hid hl; have HNN := Lib.hid NN
      clear NN g23 g1 g5 g0 hS hl hbb haf
      go_wp2_with fail
      refine wp_region_T (fun W => W.cell? ⟨n.blk, 23, none⟩ = some (.slice ba bn bc) ∧ W.cell? ⟨n.blk, 1, none⟩ = some (.string n.e.d.ty) ∧ W.cell? ⟨n.blk, 5, none⟩ = some (.string n.e.d.key) ∧ W.cell? ⟨n.blk, 0, none⟩ = some (.string n.e.d.id)) 24 (by kernel_rfl) ?_ (fun hHeld => ?_)
      · exact HS.out _ (Fresh.rfl' W4).drew
      refine wpAnyT_take (i := 0) (oi := { dst := some 63, op := .move (.tmp 1), type := 63, pos := "dag.go:156", after := #[], guard := none }) (v := ?_) rfl (by kernel_rfl) (by kernel_rfl) (by kernel_rfl) (by kernel_rfl) (fun _ _ _ h => h) (Or.inl ⟨by rfl, ?_⟩) (by assumption) ?_
      rotate_left 1
      · intro W hSw
        obtain ⟨s1, s2, s3, s4⟩ := hSw
        go_simp
        try with_reducible rfl
      try simp only [Act.put, List.setIfInBounds_toArray, List.set_cons_zero, List.set_cons_succ]
      refine wpAnyT_take (i := 1) (oi := { dst := some 64, op := .move (.tmp 1), type := 63, pos := "dag.go:156", after := #[], guard := none }) (v := ?_) rfl (by kernel_rfl) (by kernel_rfl) (by kernel_rfl) (by kernel_rfl) (fun _ _ _ h => h) (Or.inl ⟨by rfl, ?_⟩) (by assumption) ?_
      rotate_left 1
      · intro W hSw
        obtain ⟨s1, s2, s3, s4⟩ := hSw
        go_simp
        try with_reducible rfl
      try simp only [Act.put, List.setIfInBounds_toArray, List.set_cons_zero, List.set_cons_succ]
      refine wpAnyT_take (i := 2) (oi := { dst := some 65, op := .nilCheck (.tmp 64), type := 0, pos := "dag.go:156", after := #[{ on := 1, ground := .data }], guard := none }) (v := ?_) rfl (by kernel_rfl) (by kernel_rfl) (by kernel_rfl) (by kernel_rfl) (fun _ _ _ h => h) (Or.inl ⟨by rfl, ?_⟩) (by assumption) ?_
      rotate_left 1
      · intro W hSw
        obtain ⟨s1, s2, s3, s4⟩ := hSw
        go_simp
        try with_reducible rfl
      try simp only [Act.put, List.setIfInBounds_toArray, List.set_cons_zero, List.set_cons_succ]
      refine wpAnyT_take (i := 3) (oi := { dst := some 66, op := .fieldAddr 67 (.tmp 65) 2, type := 0, pos := "dag.go:156", after := #[{ on := 2, ground := .data }], guard := none }) (v := ?_) rfl (by kernel_rfl) (by kernel_rfl) (by kernel_rfl) (by kernel_rfl) (fun _ _ _ h => h) (Or.inl ⟨by rfl, ?_⟩) (by assumption) ?_
      rotate_left 1
      · intro W hSw
        obtain ⟨s1, s2, s3, s4⟩ := hSw
        go_simp
        try with_reducible rfl
      try simp only [Act.put, List.setIfInBounds_toArray, List.set_cons_zero, List.set_cons_succ]
      refine wpAnyT_take (i := 4) (oi := { dst := some 67, op := .load 48 (.tmp 66), type := 48, pos := "dag.go:156", after := #[{ on := 3, ground := .data }], guard := none }) (v := ?_) rfl (by kernel_rfl) (by kernel_rfl) (by kernel_rfl) (by kernel_rfl) (fun _ _ _ h => h) (Or.inl ⟨by rfl, ?_⟩) (by assumption) ?_
      rotate_left 1
      · intro W hSw
        obtain ⟨s1, s2, s3, s4⟩ := hSw
        go_simp
        try with_reducible rfl
      try simp only [Act.put, List.setIfInBounds_toArray, List.set_cons_zero, List.set_cons_succ]
      refine wpAnyT_take (i := 5) (oi := { dst := some 68, op := .move (.tmp 1), type := 63, pos := "dag.go:156", after := #[], guard := none }) (v := ?_) rfl (by kernel_rfl) (by kernel_rfl) (by kernel_rfl) (by kernel_rfl) (fun _ _ _ h => h) (Or.inl ⟨by rfl, ?_⟩) (by assumption) ?_
      rotate_left 1
      · intro W hSw
        obtain ⟨s1, s2, s3, s4⟩ := hSw
        go_simp
        try with_reducible rfl
      try simp only [Act.put, List.setIfInBounds_toArray, List.set_cons_zero, List.set_cons_succ]
      refine wpAnyT_take (i := 6) (oi := { dst := some 69, op := .nilCheck (.tmp 68), type := 0, pos := "dag.go:156", after := #[{ on := 5, ground := .data }], guard := none }) (v := ?_) rfl (by kernel_rfl) (by kernel_rfl) (by kernel_rfl) (by kernel_rfl) (fun _ _ _ h => h) (Or.inl ⟨by rfl, ?_⟩) (by assumption) ?_
      rotate_left 1
      · intro W hSw
        obtain ⟨s1, s2, s3, s4⟩ := hSw
        go_simp
        try with_reducible rfl
      try simp only [Act.put, List.setIfInBounds_toArray, List.set_cons_zero, List.set_cons_succ]
      refine wpAnyT_take (i := 7) (oi := { dst := some 70, op := .fieldAddr 67 (.tmp 69) 0, type := 0, pos := "dag.go:156", after := #[{ on := 6, ground := .data }], guard := none }) (v := ?_) rfl (by kernel_rfl) (by kernel_rfl) (by kernel_rfl) (by kernel_rfl) (fun _ _ _ h => h) (Or.inl ⟨by rfl, ?_⟩) (by assumption) ?_
      rotate_left 1
      · intro W hSw
        obtain ⟨s1, s2, s3, s4⟩ := hSw
        go_simp
        try with_reducible rfl
      try simp only [Act.put, List.setIfInBounds_toArray, List.set_cons_zero, List.set_cons_succ]
      refine wpAnyT_take (i := 8) (oi := { dst := some 71, op := .fieldAddr 38 (.tmp 70) 1, type := 0, pos := "dag.go:156", after := #[{ on := 7, ground := .data }], guard := none }) (v := ?_) rfl (by kernel_rfl) (by kernel_rfl) (by kernel_rfl) (by kernel_rfl) (fun _ _ _ h => h) (Or.inl ⟨by rfl, ?_⟩) (by assumption) ?_
      rotate_left 1
      · intro W hSw
        obtain ⟨s1, s2, s3, s4⟩ := hSw
        go_simp
        try with_reducible rfl
      try simp only [Act.put, List.setIfInBounds_toArray, List.set_cons_zero, List.set_cons_succ]
      refine wpAnyT_take (i := 9) (oi := { dst := some 72, op := .load 9 (.tmp 71), type := 9, pos := "dag.go:156", after := #[{ on := 8, ground := .data }], guard := none }) (v := ?_) rfl (by kernel_rfl) (by kernel_rfl) (by kernel_rfl) (by kernel_rfl) (fun _ _ _ h => h) (Or.inl ⟨by rfl, ?_⟩) (by assumption) ?_
      rotate_left 1
      · intro W hSw
        obtain ⟨s1, s2, s3, s4⟩ := hSw
        go_simp
        try with_reducible rfl
      try simp only [Act.put, List.setIfInBounds_toArray, List.set_cons_zero, List.set_cons_succ]
      refine wpAnyT_take (i := 10) (oi := { dst := some 73, op := .move (.tmp 1), type := 63, pos := "dag.go:156", after := #[], guard := none }) (v := ?_) rfl (by kernel_rfl) (by kernel_rfl) (by kernel_rfl) (by kernel_rfl) (fun _ _ _ h => h) (Or.inl ⟨by rfl, ?_⟩) (by assumption) ?_
      rotate_left 1
      · intro W hSw
        obtain ⟨s1, s2, s3, s4⟩ := hSw
        go_simp
        try with_reducible rfl
      try simp only [Act.put, List.setIfInBounds_toArray, List.set_cons_zero, List.set_cons_succ]
      refine wpAnyT_take (i := 11) (oi := { dst := some 74, op := .nilCheck (.tmp 73), type := 0, pos := "dag.go:156", after := #[{ on := 10, ground := .data }], guard := none }) (v := ?_) rfl (by kernel_rfl) (by kernel_rfl) (by kernel_rfl) (by kernel_rfl) (fun _ _ _ h => h) (Or.inl ⟨by rfl, ?_⟩) (by assumption) ?_
      rotate_left 1
      · intro W hSw
        obtain ⟨s1, s2, s3, s4⟩ := hSw
        go_simp
        try with_reducible rfl
      try simp only [Act.put, List.setIfInBounds_toArray, List.set_cons_zero, List.set_cons_succ]
      refine wpAnyT_take (i := 12) (oi := { dst := some 75, op := .fieldAddr 67 (.tmp 74) 0, type := 0, pos := "dag.go:156", after := #[{ on := 11, ground := .data }], guard := none }) (v := ?_) rfl (by kernel_rfl) (by kernel_rfl) (by kernel_rfl) (by kernel_rfl) (fun _ _ _ h => h) (Or.inl ⟨by rfl, ?_⟩) (by assumption) ?_
      rotate_left 1
      · intro W hSw
        obtain ⟨s1, s2, s3, s4⟩ := hSw
        go_simp
        try with_reducible rfl
      try simp only [Act.put, List.setIfInBounds_toArray, List.set_cons_zero, List.set_cons_succ]
      refine wpAnyT_take (i := 13) (oi := { dst := some 76, op := .fieldAddr 38 (.tmp 75) 5, type := 0, pos := "dag.go:156", after := #[{ on := 12, ground := .data }], guard := none }) (v := ?_) rfl (by kernel_rfl) (by kernel_rfl) (by kernel_rfl) (by kernel_rfl) (fun _ _ _ h => h) (Or.inl ⟨by rfl, ?_⟩) (by assumption) ?_
      rotate_left 1
      · intro W hSw
        obtain ⟨s1, s2, s3, s4⟩ := hSw
        go_simp
        try with_reducible rfl
      try simp only [Act.put, List.setIfInBounds_toArray, List.set_cons_zero, List.set_cons_succ]
      refine wpAnyT_take (i := 14) (oi := { dst := some 77, op := .load 9 (.tmp 76), type := 9, pos := "dag.go:156", after := #[{ on := 13, ground := .data }], guard := none }) (v := ?_) rfl (by kernel_rfl) (by kernel_rfl) (by kernel_rfl) (by kernel_rfl) (fun _ _ _ h => h) (Or.inl ⟨by rfl, ?_⟩) (by assumption) ?_
      rotate_left 1
      · intro W hSw
        obtain ⟨s1, s2, s3, s4⟩ := hSw
        go_simp
        try with_reducible rfl
      try simp only [Act.put, List.setIfInBounds_toArray, List.set_cons_zero, List.set_cons_succ]
      refine wpAnyT_take (i := 15) (oi := { dst := some 78, op := .move (.tmp 1), type := 63, pos := "dag.go:156", after := #[], guard := none }) (v := ?_) rfl (by kernel_rfl) (by kernel_rfl) (by kernel_rfl) (by kernel_rfl) (fun _ _ _ h => h) (Or.inl ⟨by rfl, ?_⟩) (by assumption) ?_
      rotate_left 1
      · intro W hSw
        obtain ⟨s1, s2, s3, s4⟩ := hSw
        go_simp
        try with_reducible rfl
      try simp only [Act.put, List.setIfInBounds_toArray, List.set_cons_zero, List.set_cons_succ]
      refine wpAnyT_take (i := 16) (oi := { dst := some 79, op := .nilCheck (.tmp 78), type := 0, pos := "dag.go:156", after := #[{ on := 15, ground := .data }], guard := none }) (v := ?_) rfl (by kernel_rfl) (by kernel_rfl) (by kernel_rfl) (by kernel_rfl) (fun _ _ _ h => h) (Or.inl ⟨by rfl, ?_⟩) (by assumption) ?_
      rotate_left 1
      · intro W hSw
        obtain ⟨s1, s2, s3, s4⟩ := hSw
        go_simp
        try with_reducible rfl
      try simp only [Act.put, List.setIfInBounds_toArray, List.set_cons_zero, List.set_cons_succ]
      refine wpAnyT_take (i := 17) (oi := { dst := some 80, op := .fieldAddr 67 (.tmp 79) 0, type := 0, pos := "dag.go:156", after := #[{ on := 16, ground := .data }], guard := none }) (v := ?_) rfl (by kernel_rfl) (by kernel_rfl) (by kernel_rfl) (by kernel_rfl) (fun _ _ _ h => h) (Or.inl ⟨by rfl, ?_⟩) (by assumption) ?_
      rotate_left 1
      · intro W hSw
        obtain ⟨s1, s2, s3, s4⟩ := hSw
        go_simp
        try with_reducible rfl
      try simp only [Act.put, List.setIfInBounds_toArray, List.set_cons_zero, List.set_cons_succ]
      refine wpAnyT_take (i := 18) (oi := { dst := some 81, op := .fieldAddr 38 (.tmp 80) 0, type := 0, pos := "dag.go:156", after := #[{ on := 17, ground := .data }], guard := none }) (v := ?_) rfl (by kernel_rfl) (by kernel_rfl) (by kernel_rfl) (by kernel_rfl) (fun _ _ _ h => h) (Or.inl ⟨by rfl, ?_⟩) (by assumption) ?_
      rotate_left 1
      · intro W hSw
        obtain ⟨s1, s2, s3, s4⟩ := hSw
        go_simp
        try with_reducible rfl
      try simp only [Act.put, List.setIfInBounds_toArray, List.set_cons_zero, List.set_cons_succ]
      refine wpAnyT_take (i := 19) (oi := { dst := some 82, op := .load 9 (.tmp 81), type := 9, pos := "dag.go:156", after := #[{ on := 18, ground := .data }], guard := none }) (v := ?_) rfl (by kernel_rfl) (by kernel_rfl) (by kernel_rfl) (by kernel_rfl) (fun _ _ _ h => h) (Or.inl ⟨by rfl, ?_⟩) (by assumption) ?_
      rotate_left 1
      · intro W hSw
        obtain ⟨s1, s2, s3, s4⟩ := hSw
        go_simp
        try with_reducible rfl
      try simp only [Act.put, List.setIfInBounds_toArray, List.set_cons_zero, List.set_cons_succ]
      refine wpAnyT_take (i := 20) (oi := { dst := some 83, op := .build 80 #[(0, .tmp 72), (1, .tmp 77), (2, .tmp 82)], type := 80, pos := "dag.go:156", after := #[{ on := 9, ground := .data }, { on := 14, ground := .data }, { on := 19, ground := .data }], guard := none }) (v := ?_) rfl (by kernel_rfl) (by kernel_rfl) (by kernel_rfl) (by kernel_rfl) (fun _ _ _ h => h) (Or.inl ⟨by rfl, ?_⟩) (by assumption) ?_
      rotate_left 1
      · intro W hSw
        obtain ⟨s1, s2, s3, s4⟩ := hSw
        go_simp
        try with_reducible rfl
      try simp only [Act.put, List.setIfInBounds_toArray, List.set_cons_zero, List.set_cons_succ]
      refine wpAnyT_step (i := 21) (o := { dst := some 84, op := .call { callee := Go.Callee.value (.func 44), args := #[.tmp 67, .tmp 83], argTypes := #[48, 80] }, type := 48, pos := "dag.go:156", after := #[{ on := 4, ground := .data }, { on := 20, ground := .data }], guard := none }) (by kernel_rfl) rfl (fun K hK => ?_)
      go_simp
      go_at_call 44
      refine (put_any (HJ4.out.std.fresh (Fresh.rfl' W4).drew) ⟨ba, bn, bc⟩ bl (EnSl.fresh HNN.out.before (Fresh.rfl' W4).drew) ⟨n.e.d.ty, n.e.d.key, n.e.d.id⟩ Hl.out).mono ?_
      rintro x w3 ⟨⟨va, vn, vc⟩, rfl, hv, hf3⟩
      have HF3 : Hid (Fresh W4 w3) := hf3.ofDrew
      have hv2 := (HJ4.out.fresh HF3.out).setNode (n' := ⟨n.blk, n.e, m, ⟨ba, bn, bc⟩, bl, ⟨va, vn, vc⟩, bl ++ [⟨n.e.d.ty, n.e.d.key, n.e.d.id⟩]⟩) Hn4.out rfl rfl (o := 24) (v := .slice va vn vc) rfl (HNN.out.before.fresh HF3.out) hv
      have HV := Lib.hid hv2
      have NN3 := (HJ4.out.fresh HF3.out).is.rest.nd _ Hn4.out
      have p24 : w3.cell? ⟨n.blk, 24, none⟩ = some (.slice ba bn bc) := (NN3.at_ 24).trans rfl
      have q24 : w3.frozen? ⟨n.blk, 24, none⟩ = false := NN3.fz 24
      clear hv hf3 hv2 NN3
      try dsimp only
      refine hK.out _ _ (HS.out _ HF3.out) (fun hHeld => ?_)
      clear hK K
      try simp only [Act.put, List.setIfInBounds_toArray, List.set_cons_zero, List.set_cons_succ]
      refine wpAnyT_step (i := 22) (o := { dst := some 85, op := .nilCheck (.tmp 63), type := 0, pos := "dag.go:156", after := #[{ on := 0, ground := .data }, { on := 0, ground := .phase }, { on := 1, ground := .phase }, { on := 2, ground := .phase }, { on := 3, ground := .phase }, { on := 4, ground := .phase }, { on := 5, ground := .phase }, { on := 6, ground := .phase }, { on := 7, ground := .phase }, { on := 8, ground := .phase }, { on := 9, ground := .phase }, { on := 10, ground := .phase }, { on := 11, ground := .phase }, { on := 12, ground := .phase }, { on := 13, ground := .phase }, { on := 14, ground := .phase }, { on := 15, ground := .phase }, { on := 16, ground := .phase }, { on := 17, ground := .phase }, { on := 18, ground := .phase }, { on := 19, ground := .phase }, { on := 20, ground := .phase }, { on := 21, ground := .phase }], guard := none }) (by kernel_rfl) rfl (fun K hK => ?_)
      go_simp
      refine hK.out _ _ (HS.out _ HF3.out) (fun hHeld => ?_)
      clear hK K
      try simp only [Act.put, List.setIfInBounds_toArray, List.set_cons_zero, List.set_cons_succ]
      refine wpAnyT_step (i := 23) (o := { dst := some 86, op := .fieldAddr 67 (.tmp 85) 3, type := 0, pos := "dag.go:156", after := #[{ on := 22, ground := .data }, { on := 0, ground := .phase }, { on := 1, ground := .phase }, { on := 2, ground := .phase }, { on := 3, ground := .phase }, { on := 4, ground := .phase }, { on := 5, ground := .phase }, { on := 6, ground := .phase }, { on := 7, ground := .phase }, { on := 8, ground := .phase }, { on := 9, ground := .phase }, { on := 10, ground := .phase }, { on := 11, ground := .phase }, { on := 12, ground := .phase }, { on := 13, ground := .phase }, { on := 14, ground := .phase }, { on := 15, ground := .phase }, { on := 16, ground := .phase }, { on := 17, ground := .phase }, { on := 18, ground := .phase }, { on := 19, ground := .phase }, { on := 20, ground := .phase }, { on := 21, ground := .phase }], guard := none }) (by kernel_rfl) rfl (fun K hK => ?_)
      go_simp
      refine hK.out _ _ (HS.out _ HF3.out) (fun hHeld => ?_)
      clear hK K
      try simp only [Act.put, List.setIfInBounds_toArray, List.set_cons_zero, List.set_cons_succ]
      refine wpAnyT_last (o := { dst := none, op := .store 48 (.tmp 86) (.tmp 84), type := 0, pos := "dag.go:156", after := #[{ on := 23, ground := .data }, { on := 21, ground := .data }, { on := 21, ground := .chain }, { on := 0, ground := .phase }, { on := 1, ground := .phase }, { on := 2, ground := .phase }, { on := 3, ground := .phase }, { on := 4, ground := .phase }, { on := 5, ground := .phase }, { on := 6, ground := .phase }, { on := 7, ground := .phase }, { on := 8, ground := .phase }, { on := 9, ground := .phase }, { on := 10, ground := .phase }, { on := 11, ground := .phase }, { on := 12, ground := .phase }, { on := 13, ground := .phase }, { on := 14, ground := .phase }, { on := 15, ground := .phase }, { on := 16, ground := .phase }, { on := 17, ground := .phase }, { on := 18, ground := .phase }, { on := 19, ground := .phase }, { on := 20, ground := .phase }, { on := 21, ground := .phase }], guard := none }) (by kernel_rfl) rfl (fun K hK => ?_)
      go_simp
      refine hK.out _ _ ?_
      clear hK K
      try simp only [Act.put, List.setIfInBounds_toArray, List.set_cons_zero, List.set_cons_succ]
      refine wpAnyT_done (by kernel_rfl) ?_ _
      go_wp2_with fail
      go_meet
      refine ⟨col, _, _, _, _, _, HV.out.1, HV.out.2.1, (setNd_key (n' := ⟨n.blk, n.e, m, ⟨ba, bn, bc⟩, bl, ⟨va, vn, vc⟩, bl ++ [⟨n.e.d.ty, n.e.d.key, n.e.d.id⟩]⟩) (HJ4.out.fresh HF3.out).is Hn4.out rfl rfl).trans Hk4.out, ?_⟩
      rw [HV.out.2.2.1, Hd4.out, Haf.out]
      exact setNd_twice rfl
  clear HJ4 Hn4 Hd4 HB
  go_upto_region 11 with fail
  go_cut [] from 87 to 100 (fun wx => JAt w col k R (r.ns.map nkey) n.blk n.e m ({ d2.setNd ⟨n.e.d, m, bl, afterF n.e.d m bl⟩ with order := d2.order ++ [n.e.d.id] }) wx)
  case first =>
    obtain ⟨col', r', b', bl', a', al', hjs, hn', hl', hd⟩ := hcut
    have HJ := Lib.hid hjs; have HN' := Lib.hid hn'; have HD := Lib.hid hd; have HL' := Lib.hid hl'
    have hi0 : wc.cell? ⟨n.blk, 0, none⟩ = some (.string n.e.d.id) := ((hjs.is.rest.nd _ hn').at_ 0).trans rfl
    have hrf : wc.cell? ⟨R, 3, none⟩ = some (.slice r'.od.a r'.od.n r'.od.c) := hjs.is.c3
    have hS : ∀ W, Fresh wc W → W.cell? ⟨n.blk, 0, none⟩ = some (.string n.e.d.id) ∧ W.cell? ⟨R, 3, none⟩ = some (.slice r'.od.a r'.od.n r'.od.c) := fun W hW => ⟨hW.keep hi0, hW.keep hrf⟩
    have HS := Lib.hid hS
    have hlst : r'.order = d2.order := by rw [show r'.order = r'.d.order from rfl, hd]; rfl
    have hlen : r'.order.length < 4096 := by rw [hlst]; exact Hd2.out.1
    have Hlst := Lib.hid hlst
    clear hlst
    clear hjs hn' hd hl' hi0 hrf hS
    refine wp_region_T (fun W => W.cell? ⟨n.blk, 0, none⟩ = some (.string n.e.d.id) ∧ W.cell? ⟨R, 3, none⟩ = some (.slice r'.od.a r'.od.n r'.od.c)) 14 (by kernel_rfl) ?_ (fun hHeld => ?_)
    · exact HS.out _ (Fresh.rfl' wc).drew
    refine wpAnyT_take (i := 0) (oi := { dst := some 87, op := .move (.tmp 0), type := 23, pos := "dag.go:158", after := #[], guard := none }) (v := ?_) rfl (by kernel_rfl) (by kernel_rfl) (by kernel_rfl) (by kernel_rfl) (fun _ _ _ h => h) (Or.inl ⟨by rfl, ?_⟩) (by assumption) ?_
    rotate_left 1
    · intro W hSw
      obtain ⟨s1, s2⟩ := hSw
      go_simp
      try with_reducible rfl
    try simp only [Act.put, List.setIfInBounds_toArray, List.set_cons_zero, List.set_cons_succ]
    refine wpAnyT_take (i := 1) (oi := { dst := some 88, op := .move (.tmp 0), type := 23, pos := "dag.go:158", after := #[], guard := none }) (v := ?_) rfl (by kernel_rfl) (by kernel_rfl) (by kernel_rfl) (by kernel_rfl) (fun _ _ _ h => h) (Or.inl ⟨by rfl, ?_⟩) (by assumption) ?_
    rotate_left 1
    · intro W hSw
      obtain ⟨s1, s2⟩ := hSw
      go_simp
      try with_reducible rfl
    try simp only [Act.put, List.setIfInBounds_toArray, List.set_cons_zero, List.set_cons_succ]
    refine wpAnyT_take (i := 2) (oi := { dst := some 89, op := .nilCheck (.tmp 88), type := 0, pos := "dag.go:158", after := #[{ on := 1, ground := .data }], guard := none }) (v := ?_) rfl (by kernel_rfl) (by kernel_rfl) (by kernel_rfl) (by kernel_rfl) (fun _ _ _ h => h) (Or.inl ⟨by rfl, ?_⟩) (by assumption) ?_
    rotate_left 1
    · intro W hSw
      obtain ⟨s1, s2⟩ := hSw
      go_simp
      try with_reducible rfl
    try simp only [Act.put, List.setIfInBounds_toArray, List.set_cons_zero, List.set_cons_succ]
    refine wpAnyT_take (i := 3) (oi := { dst := some 90, op := .fieldAddr 60 (.tmp 89) 3, type := 0, pos := "dag.go:158", after := #[{ on := 2, ground := .data }], guard := none }) (v := ?_) rfl (by kernel_rfl) (by kernel_rfl) (by kernel_rfl) (by kernel_rfl) (fun _ _ _ h => h) (Or.inl ⟨by rfl, ?_⟩) (by assumption) ?_
    rotate_left 1
    · intro W hSw
      obtain ⟨s1, s2⟩ := hSw
      go_simp
      try with_reducible rfl
    try simp only [Act.put, List.setIfInBounds_toArray, List.set_cons_zero, List.set_cons_succ]
    refine wpAnyT_take (i := 4) (oi := { dst := some 91, op := .load 30 (.tmp 90), type := 30, pos := "dag.go:158", after := #[{ on := 3, ground := .data }], guard := none }) (v := ?_) rfl (by kernel_rfl) (by kernel_rfl) (by kernel_rfl) (by kernel_rfl) (fun _ _ _ h => h) (Or.inl ⟨by rfl, ?_⟩) (by assumption) ?_
    rotate_left 1
    · intro W hSw
      obtain ⟨s1, s2⟩ := hSw
      go_simp
      try with_reducible rfl
    try simp only [Act.put, List.setIfInBounds_toArray, List.set_cons_zero, List.set_cons_succ]
    refine wpAnyT_take (i := 5) (oi := { dst := some 92, op := .move (.tmp 1), type := 63, pos := "dag.go:158", after := #[], guard := none }) (v := ?_) rfl (by kernel_rfl) (by kernel_rfl) (by kernel_rfl) (by kernel_rfl) (fun _ _ _ h => h) (Or.inl ⟨by rfl, ?_⟩) (by assumption) ?_
    rotate_left 1
    · intro W hSw
      obtain ⟨s1, s2⟩ := hSw
      go_simp
      try with_reducible rfl
    try simp only [Act.put, List.setIfInBounds_toArray, List.set_cons_zero, List.set_cons_succ]
    refine wpAnyT_take (i := 6) (oi := { dst := some 93, op := .nilCheck (.tmp 92), type := 0, pos := "dag.go:158", after := #[{ on := 5, ground := .data }], guard := none }) (v := ?_) rfl (by kernel_rfl) (by kernel_rfl) (by kernel_rfl) (by kernel_rfl) (fun _ _ _ h => h) (Or.inl ⟨by rfl, ?_⟩) (by assumption) ?_
    rotate_left 1
    · intro W hSw
      obtain ⟨s1, s2⟩ := hSw
      go_simp
      try with_reducible rfl
    try simp only [Act.put, List.setIfInBounds_toArray, List.set_cons_zero, List.set_cons_succ]
    refine wpAnyT_take (i := 7) (oi := { dst := some 94, op := .fieldAddr 67 (.tmp 93) 0, type := 0, pos := "dag.go:158", after := #[{ on := 6, ground := .data }], guard := none }) (v := ?_) rfl (by kernel_rfl) (by kernel_rfl) (by kernel_rfl) (by kernel_rfl) (fun _ _ _ h => h) (Or.inl ⟨by rfl, ?_⟩) (by assumption) ?_
    rotate_left 1
    · intro W hSw
      obtain ⟨s1, s2⟩ := hSw
      go_simp
      try with_reducible rfl
    try simp only [Act.put, List.setIfInBounds_toArray, List.set_cons_zero, List.set_cons_succ]
    refine wpAnyT_take (i := 8) (oi := { dst := some 95, op := .fieldAddr 38 (.tmp 94) 0, type := 0, pos := "dag.go:158", after := #[{ on := 7, ground := .data }], guard := none }) (v := ?_) rfl (by kernel_rfl) (by kernel_rfl) (by kernel_rfl) (by kernel_rfl) (fun _ _ _ h => h) (Or.inl ⟨by rfl, ?_⟩) (by assumption) ?_
    rotate_left 1
    · intro W hSw
      obtain ⟨s1, s2⟩ := hSw
      go_simp
      try with_reducible rfl
    try simp only [Act.put, List.setIfInBounds_toArray, List.set_cons_zero, List.set_cons_succ]
    refine wpAnyT_take (i := 9) (oi := { dst := some 96, op := .load 9 (.tmp 95), type := 9, pos := "dag.go:158", after := #[{ on := 8, ground := .data }], guard := none }) (v := ?_) rfl (by kernel_rfl) (by kernel_rfl) (by kernel_rfl) (by kernel_rfl) (fun _ _ _ h => h) (Or.inl ⟨by rfl, ?_⟩) (by assumption) ?_
    rotate_left 1
    · intro W hSw
      obtain ⟨s1, s2⟩ := hSw
      go_simp
      try with_reducible rfl
    try simp only [Act.put, List.setIfInBounds_toArray, List.set_cons_zero, List.set_cons_succ]
    refine wpAnyT_step (i := 10) (o := { dst := some 97, op := .buildSlice 30 1 #[(0, .tmp 96)], type := 30, pos := "dag.go:158", after := #[{ on := 9, ground := .data }], guard := none }) (by kernel_rfl) rfl (fun K hK => ?_)
    go_simp
    have HFa : Hid (Fresh wc (wc.drew.alloc (.cells #[.string n.e.d.id] 9))) := (Fresh.rfl' wc).drew.alloc (Nat.le_refl _) _
    refine hK.out _ _ (HS.out _ HFa.out) (fun hHeld => ?_)
    clear hK K
    try simp only [Act.put, List.setIfInBounds_toArray, List.set_cons_zero, List.set_cons_succ]
    refine wpAnyT_step (i := 11) (o := { dst := some 98, op := .call { callee := Go.Callee.builtin Go.Builtin.append, args := #[.tmp 91, .tmp 97], argTypes := #[30, 30] }, type := 30, pos := "dag.go:158", after := #[{ on := 4, ground := .data }, { on := 10, ground := .data }], guard := none }) (by kernel_rfl) rfl (fun K hK => ?_)
    refine step_append_src2 _ rfl (.tmp 91) (.tmp 97) 30 30 rfl 0 9 (.string ⟨#[]⟩) 1 16 Tryz.underlying30 info9 rfl (by decide) (sv r'.od) r'.order.length _ rfl (HJ.out.fresh HFa.out).is.rest.od.row (.slice (some ⟨wc.heap.size, 0, none⟩) 1 1) 1 [.string n.e.d.id] rfl (src_one _ _ _ Tryz.underlying30 (heap_alloc_new _ _) rfl) (by unfold maxLen; omega) (by omega) (Nat.zero_le _) ?_
    intro v' w3 hown hg hbl
    obtain ⟨va, vn, vc, rfl⟩ := own_slice hown
    have hgr := (HJ.out.fresh HFa.out).is.grown (HJ.out.fresh HFa.out).is.rest.od (by omega) hg
    have hcR : w3.cell? ⟨R, 3, none⟩ = some (.slice r'.od.a r'.od.n r'.od.c) := (cell_of_block hgr.1 _).trans (HS.out _ HFa.out).2
    have hci : w3.cell? ⟨n.blk, 0, none⟩ = some (.string n.e.d.id) := (cell_of_block (hgr.2 _ HN'.out) _).trans (HS.out _ HFa.out).1
    have hzR : w3.frozen? ⟨R, 3, none⟩ = false := (frozen_of_block hgr.1 _).trans ((HJ.out.fresh HFa.out).is.fz 3)
    obtain ⟨col2, h5, h6, h7⟩ := (HJ.out.fresh HFa.out).is.appOd (HJ.out.fresh HFa.out).std ⟨va, vn, vc⟩ n.e.d.id (by simpa using hown) hg hbl hlen
    have H5 := Lib.hid h5; have H6 := Lib.hid h6; have H7 := Lib.hid h7
    clear hown hg hbl hgr h5 h6 h7
    refine hK.out _ _ ⟨hci, hcR⟩ (fun hHeld => ?_)
    clear hK K
    try simp only [Act.put, List.setIfInBounds_toArray, List.set_cons_zero, List.set_cons_succ]
    refine wpAnyT_step (i := 12) (o := { dst := some 99, op := .nilCheck (.tmp 87), type := 0, pos := "dag.go:158", after := #[{ on := 0, ground := .data }, { on := 0, ground := .phase }, { on := 1, ground := .phase }, { on := 2, ground := .phase }, { on := 3, ground := .phase }, { on := 4, ground := .phase }, { on := 5, ground := .phase }, { on := 6, ground := .phase }, { on := 7, ground := .phase }, { on := 8, ground := .phase }, { on := 9, ground := .phase }, { on := 10, ground := .phase }, { on := 11, ground := .phase }], guard := none }) (by kernel_rfl) rfl (fun K hK => ?_)
    go_simp
    refine hK.out _ _ ⟨hci, hcR⟩ (fun hHeld => ?_)
    clear hK K
    try simp only [Act.put, List.setIfInBounds_toArray, List.set_cons_zero, List.set_cons_succ]
    refine wpAnyT_step (i := 13) (o := { dst := some 100, op := .fieldAddr 60 (.tmp 99) 3, type := 0, pos := "dag.go:158", after := #[{ on := 12, ground := .data }, { on := 0, ground := .phase }, { on := 1, ground := .phase }, { on := 2, ground := .phase }, { on := 3, ground := .phase }, { on := 4, ground := .phase }, { on := 5, ground := .phase }, { on := 6, ground := .phase }, { on := 7, ground := .phase }, { on := 8, ground := .phase }, { on := 9, ground := .phase }, { on := 10, ground := .phase }, { on := 11, ground := .phase }], guard := none }) (by kernel_rfl) rfl (fun K hK => ?_)
    go_simp
    refine hK.out _ _ ⟨hci, hcR⟩ (fun hHeld => ?_)
    clear hK K
    try simp only [Act.put, List.setIfInBounds_toArray, List.set_cons_zero, List.set_cons_succ]
    refine wpAnyT_last (o := { dst := none, op := .store 30 (.tmp 100) (.tmp 98), type := 0, pos := "dag.go:158", after := #[{ on := 13, ground := .data }, { on := 11, ground := .data }, { on := 11, ground := .chain }, { on := 0, ground := .phase }, { on := 1, ground := .phase }, { on := 2, ground := .phase }, { on := 3, ground := .phase }, { on := 4, ground := .phase }, { on := 5, ground := .phase }, { on := 6, ground := .phase }, { on := 7, ground := .phase }, { on := 8, ground := .phase }, { on := 9, ground := .phase }, { on := 10, ground := .phase }, { on := 11, ground := .phase }], guard := none }) (by kernel_rfl) rfl (fun K hK => ?_)
    go_simp
    refine hK.out _ _ ?_
    clear hK K
    try simp only [Act.put, List.setIfInBounds_toArray, List.set_cons_zero, List.set_cons_succ]
    refine wpAnyT_done (by kernel_rfl) ?_ _
    go_wp2_with fail
    go_meet
    refine ⟨col2, { r' with od := ⟨va, vn, vc⟩, order := r'.order ++ [n.e.d.id] }, b', bl', a', al', ⟨H5.out, H6.out, (HJ.out.fresh HFa.out).keep.trans H7.out⟩, HN'.out, HL'.out, ?_⟩
    rw [← HD.out, ← Hlst.out]; rfl
  go_upto_region 12 with fail
  go_cut [] from 101 to 113 (fun wx => JAt w col k R (r.ns.map nkey) n.blk n.e m ({ d2.setNd ⟨n.e.d, m, bl, afterF n.e.d m bl⟩ with order := d2.order ++ [n.e.d.id], evs := d2.evs ++ [n.e.d] }) wx)
  case first =>
    obtain ⟨col', r', b', bl', a', al', hjs, hn', hl', hd⟩ := hcut
    have HJ := Lib.hid hjs; have HN' := Lib.hid hn'; have HD := Lib.hid hd; have HL' := Lib.hid hl'
    have hev : Hid (∀ j, j < n.e.cells.size → wc.cell? ⟨n.blk, 0 + j, none⟩ = n.e.cells[j]?) := (hjs.is.rest.nd _ hn').ev_cells
    have hrf : wc.cell? ⟨R, 4, none⟩ = some (.slice r'.ev.a r'.ev.n r'.ev.c) := hjs.is.c4
    have hS : ∀ W, Fresh wc W → Hid (∀ j, j < n.e.cells.size → W.cell? ⟨n.blk, 0 + j, none⟩ = n.e.cells[j]?) ∧ W.cell? ⟨R, 4, none⟩ = some (.slice r'.ev.a r'.ev.n r'.ev.c) := fun W hW => ⟨((HJ.out.is.rest.nd _ HN'.out).keep (p := fun _ => True) (Keep.ofFresh hW) trivial trivial).ev_cells, hW.keep hrf⟩
    have HS := Lib.hid hS
    have hlst : r'.evs.map EV.d = d2.evs := by rw [show r'.evs.map EV.d = r'.d.evs from rfl, hd]; rfl
    have hlen : r'.evs.length < 4096 := by
      have : r'.evs.length = d2.evs.length := by rw [← hlst, List.length_map]
      rw [this]; exact Hd2.out.2.1
    have Hlst := Lib.hid hlst
    clear hlst
    clear hjs hn' hd hl' hev hrf hS
    refine wp_region_T (fun W => Hid (∀ j, j < n.e.cells.size → W.cell? ⟨n.blk, 0 + j, none⟩ = n.e.cells[j]?) ∧ W.cell? ⟨R, 4, none⟩ = some (.slice r'.ev.a r'.ev.n r'.ev.c)) 13 (by kernel_rfl) ?_ (fun hHeld => ?_)
    · exact HS.out _ (Fresh.rfl' wc).drew
    refine wpAnyT_take (i := 0) (oi := { dst := some 101, op := .move (.tmp 0), type := 23, pos := "dag.go:159", after := #[], guard := none }) (v := ?_) rfl (by kernel_rfl) (by kernel_rfl) (by kernel_rfl) (by kernel_rfl) (fun _ _ _ h => h) (Or.inl ⟨by rfl, ?_⟩) (by assumption) ?_
    rotate_left 1
    · intro W hSw
      obtain ⟨s1, s2⟩ := hSw
      go_simp
      try with_reducible rfl
    try simp only [Act.put, List.setIfInBounds_toArray, List.set_cons_zero, List.set_cons_succ]
    refine wpAnyT_take (i := 1) (oi := { dst := some 102, op := .move (.tmp 0), type := 23, pos := "dag.go:159", after := #[], guard := none }) (v := ?_) rfl (by kernel_rfl) (by kernel_rfl) (by kernel_rfl) (by kernel_rfl) (fun _ _ _ h => h) (Or.inl ⟨by rfl, ?_⟩) (by assumption) ?_
    rotate_left 1
    · intro W hSw
      obtain ⟨s1, s2⟩ := hSw
      go_simp
      try with_reducible rfl
    try simp only [Act.put, List.setIfInBounds_toArray, List.set_cons_zero, List.set_cons_succ]
    refine wpAnyT_take (i := 2) (oi := { dst := some 103, op := .nilCheck (.tmp 102), type := 0, pos := "dag.go:159", after := #[{ on := 1, ground := .data }], guard := none }) (v := ?_) rfl (by kernel_rfl) (by kernel_rfl) (by kernel_rfl) (by kernel_rfl) (fun _ _ _ h => h) (Or.inl ⟨by rfl, ?_⟩) (by assumption) ?_
    rotate_left 1
    · intro W hSw
      obtain ⟨s1, s2⟩ := hSw
      go_simp
      try with_reducible rfl
    try simp only [Act.put, List.setIfInBounds_toArray, List.set_cons_zero, List.set_cons_succ]
    refine wpAnyT_take (i := 3) (oi := { dst := some 104, op := .fieldAddr 60 (.tmp 103) 4, type := 0, pos := "dag.go:159", after := #[{ on := 2, ground := .data }], guard := none }) (v := ?_) rfl (by kernel_rfl) (by kernel_rfl) (by kernel_rfl) (by kernel_rfl) (fun _ _ _ h => h) (Or.inl ⟨by rfl, ?_⟩) (by assumption) ?_
    rotate_left 1
    · intro W hSw
      obtain ⟨s1, s2⟩ := hSw
      go_simp
      try with_reducible rfl
    try simp only [Act.put, List.setIfInBounds_toArray, List.set_cons_zero, List.set_cons_succ]
    refine wpAnyT_take (i := 4) (oi := { dst := some 105, op := .load 44 (.tmp 104), type := 44, pos := "dag.go:159", after := #[{ on := 3, ground := .data }], guard := none }) (v := ?_) rfl (by kernel_rfl) (by kernel_rfl) (by kernel_rfl) (by kernel_rfl) (fun _ _ _ h => h) (Or.inl ⟨by rfl, ?_⟩) (by assumption) ?_
    rotate_left 1
    · intro W hSw
      obtain ⟨s1, s2⟩ := hSw
      go_simp
      try with_reducible rfl
    try simp only [Act.put, List.setIfInBounds_toArray, List.set_cons_zero, List.set_cons_succ]
    refine wpAnyT_take (i := 5) (oi := { dst := some 106, op := .move (.tmp 1), type := 63, pos := "dag.go:159", after := #[], guard := none }) (v := ?_) rfl (by kernel_rfl) (by kernel_rfl) (by kernel_rfl) (by kernel_rfl) (fun _ _ _ h => h) (Or.inl ⟨by rfl, ?_⟩) (by assumption) ?_
    rotate_left 1
    · intro W hSw
      obtain ⟨s1, s2⟩ := hSw
      go_simp
      try with_reducible rfl
    try simp only [Act.put, List.setIfInBounds_toArray, List.set_cons_zero, List.set_cons_succ]
    refine wpAnyT_take (i := 6) (oi := { dst := some 107, op := .nilCheck (.tmp 106), type := 0, pos := "dag.go:159", after := #[{ on := 5, ground := .data }], guard := none }) (v := ?_) rfl (by kernel_rfl) (by kernel_rfl) (by kernel_rfl) (by kernel_rfl) (fun _ _ _ h => h) (Or.inl ⟨by rfl, ?_⟩) (by assumption) ?_
    rotate_left 1
    · intro W hSw
      obtain ⟨s1, s2⟩ := hSw
      go_simp
      try with_reducible rfl
    try simp only [Act.put, List.setIfInBounds_toArray, List.set_cons_zero, List.set_cons_succ]
    refine wpAnyT_take (i := 7) (oi := { dst := some 108, op := .fieldAddr 67 (.tmp 107) 0, type := 0, pos := "dag.go:159", after := #[{ on := 6, ground := .data }], guard := none }) (v := ?_) rfl (by kernel_rfl) (by kernel_rfl) (by kernel_rfl) (by kernel_rfl) (fun _ _ _ h => h) (Or.inl ⟨by rfl, ?_⟩) (by assumption) ?_
    rotate_left 1
    · intro W hSw
      obtain ⟨s1, s2⟩ := hSw
      go_simp
      try with_reducible rfl
    try simp only [Act.put, List.setIfInBounds_toArray, List.set_cons_zero, List.set_cons_succ]
    refine wpAnyT_take (i := 8) (oi := { dst := some 109, op := .load 38 (.tmp 108), type := 38, pos := "dag.go:159", after := #[{ on := 7, ground := .data }], guard := none }) (v := .agg n.e.cells) rfl (by kernel_rfl) (by kernel_rfl) (by kernel_rfl) (by kernel_rfl) (fun _ _ _ h => h)
      (yieldsIf_load_cells (by rfl) 38 (.tmp 108) rfl n.blk 0 rfl n.e.cells (fun W hW => hW.1.out) _ Tryz.underlying38 rfl info38s) (by assumption) ?_
    try simp only [Act.put, List.setIfInBounds_toArray, List.set_cons_zero, List.set_cons_succ]
    refine wpAnyT_step (i := 9) (o := { dst := some 110, op := .buildSlice 44 1 #[(0, .tmp 109)], type := 44, pos := "dag.go:159", after := #[{ on := 8, ground := .data }], guard := none }) (by kernel_rfl) rfl (fun K hK => ?_)
    refine step_build44 rfl (.tmp 109) rfl n.e rfl ?_
    have HFa : Hid (Fresh wc (wc.drew.alloc (.cells n.e.cells 38))) := (Fresh.rfl' wc).drew.alloc (Nat.le_refl _) _
    refine hK.out _ _ (HS.out _ HFa.out) (fun hHeld => ?_)
    clear hK K
    try simp only [Act.put, List.setIfInBounds_toArray, List.set_cons_zero, List.set_cons_succ]
    refine wpAnyT_step (i := 10) (o := { dst := some 111, op := .call { callee := Go.Callee.builtin Go.Builtin.append, args := #[.tmp 105, .tmp 110], argTypes := #[44, 44] }, type := 44, pos := "dag.go:159", after := #[{ on := 4, ground := .data }, { on := 9, ground := .data }], guard := none }) (by kernel_rfl) rfl (fun K hK => ?_)
    refine step_append_src2 _ rfl (.tmp 105) (.tmp 110) 44 44 rfl 0 38 (.agg EV.zero.cells) 22 328 Tryz.underlying44 info38r rfl (by decide) (sv r'.ev) r'.evs.length _ rfl (HJ.out.fresh HFa.out).is.rest.ev.row (.slice (some ⟨wc.heap.size, 0, none⟩) 1 1) 1 n.e.cells.toList rfl (src_ev n.e _ (heap_alloc_new _ _)) (by unfold maxLen; omega) (by omega) (Nat.zero_le _) ?_
    intro v' w3 hown hg hbl
    obtain ⟨va, vn, vc, rfl⟩ := own_slice hown
    have hgr := (HJ.out.fresh HFa.out).is.grown (HJ.out.fresh HFa.out).is.rest.ev (by omega) hg
    have hcR : w3.cell? ⟨R, 4, none⟩ = some (.slice r'.ev.a r'.ev.n r'.ev.c) := (cell_of_block hgr.1 _).trans (HS.out _ HFa.out).2
    have hci : Hid (∀ j, j < n.e.cells.size → w3.cell? ⟨n.blk, 0 + j, none⟩ = n.e.cells[j]?) := fun j hj => (cell_of_block (hgr.2 _ HN'.out) _).trans ((HS.out _ HFa.out).1.out j hj)
    have hzR : w3.frozen? ⟨R, 4, none⟩ = false := (frozen_of_block hgr.1 _).trans ((HJ.out.fresh HFa.out).is.fz 4)
    obtain ⟨col2, h5, h6, h7⟩ := (HJ.out.fresh HFa.out).is.appEv (HJ.out.fresh HFa.out).std ⟨va, vn, vc⟩ n.e ((HJ.out.fresh HFa.out).is.rest.nd _ HN'.out).ev (by rw [List.flatMap_append]; simpa using hown) hg hbl hlen
    have H5 := Lib.hid h5; have H6 := Lib.hid h6; have H7 := Lib.hid h7
    clear hown hg hbl hgr h5 h6 h7
    refine hK.out _ _ ⟨hci, hcR⟩ (fun hHeld => ?_)
    clear hK K
    try simp only [Act.put, List.setIfInBounds_toArray, List.set_cons_zero, List.set_cons_succ]
    refine wpAnyT_step (i := 11) (o := { dst := some 112, op := .nilCheck (.tmp 101), type := 0, pos := "dag.go:159", after := #[{ on := 0, ground := .data }, { on := 0, ground := .phase }, { on := 1, ground := .phase }, { on := 2, ground := .phase }, { on := 3, ground := .phase }, { on := 4, ground := .phase }, { on := 5, ground := .phase }, { on := 6, ground := .phase }, { on := 7, ground := .phase }, { on := 8, ground := .phase }, { on := 9, ground := .phase }, { on := 10, ground := .phase }], guard := none }) (by kernel_rfl) rfl (fun K hK => ?_)
    go_simp
    refine hK.out _ _ ⟨hci, hcR⟩ (fun hHeld => ?_)
    clear hK K
    try simp only [Act.put, List.setIfInBounds_toArray, List.set_cons_zero, List.set_cons_succ]
    refine wpAnyT_step (i := 12) (o := { dst := some 113, op := .fieldAddr 60 (.tmp 112) 4, type := 0, pos := "dag.go:159", after := #[{ on := 11, ground := .data }, { on := 0, ground := .phase }, { on := 1, ground := .phase }, { on := 2, ground := .phase }, { on := 3, ground := .phase }, { on := 4, ground := .phase }, { on := 5, ground := .phase }, { on := 6, ground := .phase }, { on := 7, ground := .phase }, { on := 8, ground := .phase }, { on := 9, ground := .phase }, { on := 10, ground := .phase }], guard := none }) (by kernel_rfl) rfl (fun K hK => ?_)
    go_simp
    refine hK.out _ _ ⟨hci, hcR⟩ (fun hHeld => ?_)
    clear hK K
    try simp only [Act.put, List.setIfInBounds_toArray, List.set_cons_zero, List.set_cons_succ]
    refine wpAnyT_last (o := { dst := none, op := .store 44 (.tmp 113) (.tmp 111), type := 0, pos := "dag.go:159", after := #[{ on := 12, ground := .data }, { on := 10, ground := .data }, { on := 10, ground := .chain }, { on := 0, ground := .phase }, { on := 1, ground := .phase }, { on := 2, ground := .phase }, { on := 3, ground := .phase }, { on := 4, ground := .phase }, { on := 5, ground := .phase }, { on := 6, ground := .phase }, { on := 7, ground := .phase }, { on := 8, ground := .phase }, { on := 9, ground := .phase }, { on := 10, ground := .phase }], guard := none }) (by kernel_rfl) rfl (fun K hK => ?_)
    go_simp
    refine hK.out _ _ ?_
    clear hK K
    try simp only [Act.put, List.setIfInBounds_toArray, List.set_cons_zero, List.set_cons_succ]
    refine wpAnyT_done (by kernel_rfl) ?_ _
    go_wp2_with fail
    go_meet
    refine ⟨col2, { r' with ev := ⟨va, vn, vc⟩, evs := r'.evs ++ [n.e] }, b', bl', a', al', ⟨H5.out, H6.out, (HJ.out.fresh HFa.out).keep.trans H7.out⟩, HN'.out, HL'.out, ?_⟩
    rw [← Hlst.out]
    have h9 := HD.out
    unfold Rm.d at h9 ⊢
    simp only [RmD.mk.injEq] at h9
    simp only [List.map_append, List.map_cons, List.map_nil, RmD.mk.injEq, and_true, true_and]
    simp [h9]
  go_upto_region 13 with fail
  go_cut [] from 114 to 126 (fun wx => JAt w col k R (r.ns.map nkey) n.blk n.e m ({ d2.setNd ⟨n.e.d, m, bl, afterF n.e.d m bl⟩ with order := d2.order ++ [n.e.d.id], evs := d2.evs ++ [n.e.d], top := max d2.top n.e.d.depth }) wx)
  case first =>
    obtain ⟨col', r', b', bl', a', al', hjs, hn', hl', hd⟩ := hcut
    have HJ := Lib.hid hjs; have HN' := Lib.hid hn'; have HD := Lib.hid hd; have HL' := Lib.hid hl'
    have hi0 : wc.cell? ⟨n.blk, 8, none⟩ = some (.int .i64 n.e.d.depth) := ((hjs.is.rest.nd _ hn').at_ 8).trans rfl
    have hrf : wc.cell? ⟨R, 9, none⟩ = some (.int .i64 r'.top) := hjs.is.c9
    have hzR : wc.frozen? ⟨R, 9, none⟩ = false := hjs.is.fz 9
    have hS : ∀ W, Fresh wc W → W.cell? ⟨n.blk, 8, none⟩ = some (.int .i64 n.e.d.depth) ∧ W.cell? ⟨R, 9, none⟩ = some (.int .i64 r'.top) := fun W hW => ⟨hW.keep hi0, hW.keep hrf⟩
    have HS := Lib.hid hS
    have hlst : r'.top = d2.top := by rw [show r'.top = r'.d.top from rfl, hd]; rfl
    have Hlst := Lib.hid hlst
    clear hjs hn' hd hl' hi0 hS hlst
    refine wp_region_T (fun W => W.cell? ⟨n.blk, 8, none⟩ = some (.int .i64 n.e.d.depth) ∧ W.cell? ⟨R, 9, none⟩ = some (.int .i64 r'.top)) 13 (by kernel_rfl) ?_ (fun hHeld => ?_)
    · exact HS.out _ (Fresh.rfl' wc).drew
    refine wpAnyT_take (i := 0) (oi := { dst := some 114, op := .move (.tmp 0), type := 23, pos := "dag.go:160", after := #[], guard := none }) (v := ?_) rfl (by kernel_rfl) (by kernel_rfl) (by kernel_rfl) (by kernel_rfl) (fun _ _ _ h => h) (Or.inl ⟨by rfl, ?_⟩) (by assumption) ?_
    rotate_left 1
    · intro W hSw
      obtain ⟨s1, s2⟩ := hSw
      go_simp
      try with_reducible rfl
    try simp only [Act.put, List.setIfInBounds_toArray, List.set_cons_zero, List.set_cons_succ]
    refine wpAnyT_take (i := 1) (oi := { dst := some 115, op := .move (.tmp 0), type := 23, pos := "dag.go:160", after := #[], guard := none }) (v := ?_) rfl (by kernel_rfl) (by kernel_rfl) (by kernel_rfl) (by kernel_rfl) (fun _ _ _ h => h) (Or.inl ⟨by rfl, ?_⟩) (by assumption) ?_
    rotate_left 1
    · intro W hSw
      obtain ⟨s1, s2⟩ := hSw
      go_simp
      try with_reducible rfl
    try simp only [Act.put, List.setIfInBounds_toArray, List.set_cons_zero, List.set_cons_succ]
    refine wpAnyT_take (i := 2) (oi := { dst := some 116, op := .nilCheck (.tmp 115), type := 0, pos := "dag.go:160", after := #[{ on := 1, ground := .data }], guard := none }) (v := ?_) rfl (by kernel_rfl) (by kernel_rfl) (by kernel_rfl) (by kernel_rfl) (fun _ _ _ h => h) (Or.inl ⟨by rfl, ?_⟩) (by assumption) ?_
    rotate_left 1
    · intro W hSw
      obtain ⟨s1, s2⟩ := hSw
      go_simp
      try with_reducible rfl
    try simp only [Act.put, List.setIfInBounds_toArray, List.set_cons_zero, List.set_cons_succ]
    refine wpAnyT_take (i := 3) (oi := { dst := some 117, op := .fieldAddr 60 (.tmp 116) 9, type := 0, pos := "dag.go:160", after := #[{ on := 2, ground := .data }], guard := none }) (v := ?_) rfl (by kernel_rfl) (by kernel_rfl) (by kernel_rfl) (by kernel_rfl) (fun _ _ _ h => h) (Or.inl ⟨by rfl, ?_⟩) (by assumption) ?_
    rotate_left 1
    · intro W hSw
      obtain ⟨s1, s2⟩ := hSw
      go_simp
      try with_reducible rfl
    try simp only [Act.put, List.setIfInBounds_toArray, List.set_cons_zero, List.set_cons_succ]
    refine wpAnyT_take (i := 4) (oi := { dst := some 118, op := .load 2 (.tmp 117), type := 2, pos := "dag.go:160", after := #[{ on := 3, ground := .data }], guard := none }) (v := ?_) rfl (by kernel_rfl) (by kernel_rfl) (by kernel_rfl) (by kernel_rfl) (fun _ _ _ h => h) (Or.inl ⟨by rfl, ?_⟩) (by assumption) ?_
    rotate_left 1
    · intro W hSw
      obtain ⟨s1, s2⟩ := hSw
      go_simp
      try with_reducible rfl
    try simp only [Act.put, List.setIfInBounds_toArray, List.set_cons_zero, List.set_cons_succ]
    refine wpAnyT_take (i := 5) (oi := { dst := some 119, op := .move (.tmp 1), type := 63, pos := "dag.go:160", after := #[], guard := none }) (v := ?_) rfl (by kernel_rfl) (by kernel_rfl) (by kernel_rfl) (by kernel_rfl) (fun _ _ _ h => h) (Or.inl ⟨by rfl, ?_⟩) (by assumption) ?_
    rotate_left 1
    · intro W hSw
      obtain ⟨s1, s2⟩ := hSw
      go_simp
      try with_reducible rfl
    try simp only [Act.put, List.setIfInBounds_toArray, List.set_cons_zero, List.set_cons_succ]
    refine wpAnyT_take (i := 6) (oi := { dst := some 120, op := .nilCheck (.tmp 119), type := 0, pos := "dag.go:160", after := #[{ on := 5, ground := .data }], guard := none }) (v := ?_) rfl (by kernel_rfl) (by kernel_rfl) (by kernel_rfl) (by kernel_rfl) (fun _ _ _ h => h) (Or.inl ⟨by rfl, ?_⟩) (by assumption) ?_
    rotate_left 1
    · intro W hSw
      obtain ⟨s1, s2⟩ := hSw
      go_simp
      try with_reducible rfl
    try simp only [Act.put, List.setIfInBounds_toArray, List.set_cons_zero, List.set_cons_succ]
    refine wpAnyT_take (i := 7) (oi := { dst := some 121, op := .fieldAddr 67 (.tmp 120) 0, type := 0, pos := "dag.go:160", after := #[{ on := 6, ground := .data }], guard := none }) (v := ?_) rfl (by kernel_rfl) (by kernel_rfl) (by kernel_rfl) (by kernel_rfl) (fun _ _ _ h => h) (Or.inl ⟨by rfl, ?_⟩) (by assumption) ?_
    rotate_left 1
    · intro W hSw
      obtain ⟨s1, s2⟩ := hSw
      go_simp
      try with_reducible rfl
    try simp only [Act.put, List.setIfInBounds_toArray, List.set_cons_zero, List.set_cons_succ]
    refine wpAnyT_take (i := 8) (oi := { dst := some 122, op := .fieldAddr 38 (.tmp 121) 8, type := 0, pos := "dag.go:160", after := #[{ on := 7, ground := .data }], guard := none }) (v := ?_) rfl (by kernel_rfl) (by kernel_rfl) (by kernel_rfl) (by kernel_rfl) (fun _ _ _ h => h) (Or.inl ⟨by rfl, ?_⟩) (by assumption) ?_
    rotate_left 1
    · intro W hSw
      obtain ⟨s1, s2⟩ := hSw
      go_simp
      try with_reducible rfl
    try simp only [Act.put, List.setIfInBounds_toArray, List.set_cons_zero, List.set_cons_succ]
    refine wpAnyT_take (i := 9) (oi := { dst := some 123, op := .load 2 (.tmp 122), type := 2, pos := "dag.go:160", after := #[{ on := 8, ground := .data }], guard := none }) (v := ?_) rfl (by kernel_rfl) (by kernel_rfl) (by kernel_rfl) (by kernel_rfl) (fun _ _ _ h => h) (Or.inl ⟨by rfl, ?_⟩) (by assumption) ?_
    rotate_left 1
    · intro W hSw
      obtain ⟨s1, s2⟩ := hSw
      go_simp
      try with_reducible rfl
    try simp only [Act.put, List.setIfInBounds_toArray, List.set_cons_zero, List.set_cons_succ]
    refine wpAnyT_step (i := 10) (o := { dst := some 124, op := .call { callee := Go.Callee.builtin Go.Builtin.max, args := #[.tmp 118, .tmp 123], argTypes := #[2, 2] }, type := 2, pos := "dag.go:160", after := #[{ on := 4, ground := .data }, { on := 9, ground := .data }], guard := none }) (by kernel_rfl) rfl (fun K hK => ?_)
    go_simp
    refine hK.out _ _ (HS.out _ (Fresh.rfl' wc).drew) (fun hHeld => ?_)
    clear hK K
    try simp only [Act.put, List.setIfInBounds_toArray, List.set_cons_zero, List.set_cons_succ]
    refine wpAnyT_step (i := 11) (o := { dst := some 125, op := .nilCheck (.tmp 114), type := 0, pos := "dag.go:160", after := #[{ on := 0, ground := .data }, { on := 0, ground := .phase }, { on := 1, ground := .phase }, { on := 2, ground := .phase }, { on := 3, ground := .phase }, { on := 4, ground := .phase }, { on := 5, ground := .phase }, { on := 6, ground := .phase }, { on := 7, ground := .phase }, { on := 8, ground := .phase }, { on := 9, ground := .phase }, { on := 10, ground := .phase }], guard := none }) (by kernel_rfl) rfl (fun K hK => ?_)
    go_simp
    refine hK.out _ _ (HS.out _ (Fresh.rfl' wc).drew) (fun hHeld => ?_)
    clear hK K
    try simp only [Act.put, List.setIfInBounds_toArray, List.set_cons_zero, List.set_cons_succ]
    refine wpAnyT_step (i := 12) (o := { dst := some 126, op := .fieldAddr 60 (.tmp 125) 9, type := 0, pos := "dag.go:160", after := #[{ on := 11, ground := .data }, { on := 0, ground := .phase }, { on := 1, ground := .phase }, { on := 2, ground := .phase }, { on := 3, ground := .phase }, { on := 4, ground := .phase }, { on := 5, ground := .phase }, { on := 6, ground := .phase }, { on := 7, ground := .phase }, { on := 8, ground := .phase }, { on := 9, ground := .phase }, { on := 10, ground := .phase }], guard := none }) (by kernel_rfl) rfl (fun K hK => ?_)
    go_simp
    refine hK.out _ _ (HS.out _ (Fresh.rfl' wc).drew) (fun hHeld => ?_)
    clear hK K
    try simp only [Act.put, List.setIfInBounds_toArray, List.set_cons_zero, List.set_cons_succ]
    refine wpAnyT_last (o := { dst := none, op := .store 2 (.tmp 126) (.tmp 124), type := 0, pos := "dag.go:160", after := #[{ on := 12, ground := .data }, { on := 10, ground := .data }, { on := 0, ground := .phase }, { on := 1, ground := .phase }, { on := 2, ground := .phase }, { on := 3, ground := .phase }, { on := 4, ground := .phase }, { on := 5, ground := .phase }, { on := 6, ground := .phase }, { on := 7, ground := .phase }, { on := 8, ground := .phase }, { on := 9, ground := .phase }, { on := 10, ground := .phase }], guard := none }) (by kernel_rfl) rfl (fun K hK => ?_)
    go_simp
    refine hK.out _ _ ?_
    clear hK K
    try simp only [Act.put, List.setIfInBounds_toArray, List.set_cons_zero, List.set_cons_succ]
    refine wpAnyT_done (by kernel_rfl) ?_ _
    go_wp2_with fail
    go_meet
    refine ⟨col', { r' with top := max r'.top n.e.d.depth }, b', bl', a', al', ⟨(HJ.out.is.setTop _).fresh (Fresh.rfl' _).drew, (HJ.out.std.keep (HJ.out.is.keepSet 9 _) (by omega)).fresh (Fresh.rfl' _).drew, (HJ.out.keep.trans ((HJ.out.is.keepSet 9 _).imp fun c hc => (outC_ne hc).1)).trans (Keep.ofFresh (Fresh.rfl' _).drew)⟩, HN'.out, HL'.out, ?_⟩
    have h9 := HD.out
    unfold Rm.d at h9 ⊢
    simp only [RmD.mk.injEq] at h9 ⊢
    exact ⟨h9.1, h9.2.1, h9.2.2.1, h9.2.2.2.1, h9.2.2.2.2.1, h9.2.2.2.2.2.1, h9.2.2.2.2.2.2.1, h9.2.2.2.2.2.2.2.1, h9.2.2.2.2.2.2.2.2.1, by rw [← Hlst.out]⟩
  obtain ⟨col', r', b', bl', a', al', hjs, hn', hl', hd⟩ := hcut
  have hNN := hjs.is.rest.nd _ hn'
  have c22 : wc.cell? ⟨n.blk, 22, none⟩ = some (.int .i64 m) := (hNN.at_ 22).trans rfl
  have c6 : wc.cell? ⟨n.blk, 6, none⟩ = some (.slice pa pn pc) := by
    have h2 : wc.cell? ⟨n.blk, 6, none⟩ = some (.slice n.e.prev.a n.e.prev.n n.e.prev.c) := (hNN.at_ 6).trans rfl
    rw [Hpe.out] at h2; exact h2
  have HJ := Lib.hid hjs; have HN' := Lib.hid hn'; have HD := Lib.hid hd; have HL' := Lib.hid hl'
  clear hNN hjs hn' hd
  rcases Hm.out with rfl | rfl
  · have hst : Hid (∃ q : Nat, q ≤ pn ∧ q = 0 ∧ JAt w col k R (r.ns.map nkey) n.blk n.e 2 ({ d2.setNd ⟨n.e.d, 2, bl, afterF n.e.d 2 bl⟩ with order := d2.order ++ [n.e.d.id], evs := d2.evs ++ [n.e.d], top := max d2.top n.e.d.depth, ends := (n.e.d.prev.take q).foldl delE d2.ends }) wc) := ⟨0, Nat.zero_le _, rfl, col', r', b', bl', a', al', HJ.out, HN'.out, HL'.out, by rw [HD.out]; rfl⟩
    clear HJ HN' HD HL' Hm
    go_wp2_with fail
    clear c22 c6
    go_loopw [155] (fun i wr => ∃ q : Nat, q ≤ pn ∧ i = .int .i64 q ∧ Hid (JAt w col k R (r.ns.map nkey) n.blk n.e 2 ({ d2.setNd ⟨n.e.d, 2, bl, afterF n.e.d 2 bl⟩ with order := d2.order ++ [n.e.d.id], evs := d2.evs ++ [n.e.d], top := max d2.top n.e.d.depth, ends := (n.e.d.prev.take q).foldl delE d2.ends }) wr)) (fun i _ => pn - (intOf i).toNat)
    case atStart =>
      obtain ⟨q, hq, rfl, hj⟩ := hst.out
      exact ⟨0, hq, rfl, hj⟩
    case round =>
      obtain ⟨q, hq, rfl, hj⟩ := hrel
      obtain ⟨col', r', b', bl', a', al', hjs, hn', hl', hd⟩ := hj.out
      have HJ := Lib.hid hjs; have HN' := Lib.hid hn'; have HD := Lib.hid hd; have HL' := Lib.hid hl'
      clear hj hd hl'
      by_cases hlt : q < pn
      · have hps := (hjs.is.rest.nd _ hn').ev.prev
        dsimp only at hps
        rw [Hpe.out] at hps
        obtain ⟨ao, cap, hv, hcp, _, _, hj⟩ := hps.open
        have hlt2 : q < n.e.d.prev.length := by rw [← Hpl.out]; exact hlt
        obtain ⟨bb, off, rfl, hbb, hcell⟩ := hj q hlt2
        simp only [Value.slice.injEq] at hv
        obtain ⟨rfl, _, _⟩ := hv
        have c6 : wr.cell? ⟨R, 6, none⟩ = some (.map (some r'.em)) := hjs.is.c6
        clear hj hps hjs hn'
        go_wp2_with (at_delete; refine Stand.stop ?_)
        refine Stand.go ?_
        refine wpList_delete_map strKey rfl (.tmp 162) (.tmp 163) 58 9 4 rfl Tryz.underlying58 rfl n.e.d.prev[q] rfl HJ.out.is.rest.ends ?_
        intro ob hm2
        have hm3 : MapIs Value.string (World.setObj' wr r'.em ob) r'.em (setKV (delE r'.ends n.e.d.prev[q])) := by rw [← delKV_set]; exact hm2
        obtain ⟨h5, h6⟩ := HJ.out.is.setEnds ob _ hm3
        have hj2 : JAt w col k R (r.ns.map nkey) n.blk n.e 2 ({ d2.setNd ⟨n.e.d, 2, bl, afterF n.e.d 2 bl⟩ with order := d2.order ++ [n.e.d.id], evs := d2.evs ++ [n.e.d], top := max d2.top n.e.d.depth, ends := (n.e.d.prev.take (q + 1)).foldl delE d2.ends }) (World.setObj' wr r'.em ob) := by
          refine ⟨col', _, b', bl', a', al', ⟨h5, HJ.out.std.keep h6 (by omega), HJ.out.keep.trans (h6.imp fun c hc => (outC_ne hc).2.1)⟩, HN'.out, HL'.out, ?_⟩
          have he : r'.ends = (n.e.d.prev.take q).foldl delE d2.ends := by rw [show r'.ends = r'.d.ends from rfl, HD.out]
          have h9 := HD.out
          unfold Rm.d at h9 ⊢
          simp only [RmD.mk.injEq] at h9 ⊢
          refine ⟨h9.1, h9.2.1, h9.2.2.1, h9.2.2.2.1, h9.2.2.2.2.1, h9.2.2.2.2.2.1, ?_, h9.2.2.2.2.2.2.2.1, h9.2.2.2.2.2.2.2.2.1, h9.2.2.2.2.2.2.2.2.2⟩
          rw [List.take_succ_eq_append_getElem hlt2, List.foldl_append, he]; rfl
        have Hj2 := Lib.hid hj2
        clear hj2 h5 h6 hm2 hm3 c6 HJ HN' HD HL'
        go_wp2_with fail
        go_roundw
        case rel => exact ⟨q + 1, by omega, by go_num, Hj2⟩
        case measure => simp [intOf]; omega
      · have hqe : n.e.d.prev.take q = n.e.d.prev := List.take_of_length_le (by rw [← Hpl.out]; omega)
        have Hqe := Lib.hid hqe
        have hi0 : wr.cell? ⟨n.blk, 0, none⟩ = some (.string n.e.d.id) := ((hjs.is.rest.nd _ hn').at_ 0).trans rfl
        have hrf : wr.cell? ⟨R, 6, none⟩ = some (.map (some r'.em)) := hjs.is.c6
        have hS : ∀ W, Fresh wr W → W.cell? ⟨n.blk, 0, none⟩ = some (.string n.e.d.id) ∧ W.cell? ⟨R, 6, none⟩ = some (.map (some r'.em)) := fun W hW => ⟨hW.keep hi0, hW.keep hrf⟩
        have HS := Lib.hid hS
        obtain ⟨ob, hup, hm2⟩ := run_update_map (w := wr.drew) strKey Tryz.underlying58 (hjs.is.rest.ends.fresh (Fresh.rfl' wr).drew) n.e.d.id (.bool true)
        have hm3 : MapIs Value.string (World.setObj' wr.drew r'.em ob) r'.em (setKV (putE r'.ends n.e.d.id)) := by rw [← putKV_set]; exact hm2
        obtain ⟨h5, h6⟩ := (hjs.is.fresh (Fresh.rfl' wr).drew).setEnds ob _ hm3
        have hj5 := Lib.hid (JSt.mk h5 ((hjs.std.fresh (Fresh.rfl' wr).drew).keep h6 (by omega)) ((hjs.keep.trans (Keep.ofFresh (Fresh.rfl' wr).drew)).trans (h6.imp fun c hc => (outC_ne hc).2.1)))
        clear hjs hn' hi0 hrf hS hm2 hm3 h5 h6 hqe
        go_wp2_with fail
        refine wp_region_T (fun W => W.cell? ⟨n.blk, 0, none⟩ = some (.string n.e.d.id) ∧ W.cell? ⟨R, 6, none⟩ = some (.map (some r'.em))) 9 (by kernel_rfl) ?_ (fun hHeld => ?_)
        · exact HS.out _ (Fresh.rfl' wr).drew
        refine wpAnyT_take (i := 0) (oi := { dst := some 165, op := .move (.tmp 0), type := 23, pos := "dag.go:168", after := #[], guard := none }) (v := ?_) rfl (by kernel_rfl) (by kernel_rfl) (by kernel_rfl) (by kernel_rfl) (fun _ _ _ h => h) (Or.inl ⟨by rfl, ?_⟩) (by assumption) ?_
        rotate_left 1
        · intro W hSw
          obtain ⟨s1, s2⟩ := hSw
          go_simp
          try with_reducible rfl
        try simp only [Act.put, List.setIfInBounds_toArray, List.set_cons_zero, List.set_cons_succ]
        refine wpAnyT_take (i := 1) (oi := { dst := some 166, op := .nilCheck (.tmp 165), type := 0, pos := "dag.go:168", after := #[{ on := 0, ground := .data }], guard := none }) (v := ?_) rfl (by kernel_rfl) (by kernel_rfl) (by kernel_rfl) (by kernel_rfl) (fun _ _ _ h => h) (Or.inl ⟨by rfl, ?_⟩) (by assumption) ?_
        rotate_left 1
        · intro W hSw
          obtain ⟨s1, s2⟩ := hSw
          go_simp
          try with_reducible rfl
        try simp only [Act.put, List.setIfInBounds_toArray, List.set_cons_zero, List.set_cons_succ]
        refine wpAnyT_take (i := 2) (oi := { dst := some 167, op := .fieldAddr 60 (.tmp 166) 6, type := 0, pos := "dag.go:168", after := #[{ on := 1, ground := .data }], guard := none }) (v := ?_) rfl (by kernel_rfl) (by kernel_rfl) (by kernel_rfl) (by kernel_rfl) (fun _ _ _ h => h) (Or.inl ⟨by rfl, ?_⟩) (by assumption) ?_
        rotate_left 1
        · intro W hSw
          obtain ⟨s1, s2⟩ := hSw
          go_simp
          try with_reducible rfl
        try simp only [Act.put, List.setIfInBounds_toArray, List.set_cons_zero, List.set_cons_succ]
        refine wpAnyT_take (i := 3) (oi := { dst := some 168, op := .load 58 (.tmp 167), type := 58, pos := "dag.go:168", after := #[{ on := 2, ground := .data }], guard := none }) (v := ?_) rfl (by kernel_rfl) (by kernel_rfl) (by kernel_rfl) (by kernel_rfl) (fun _ _ _ h => h) (Or.inl ⟨by rfl, ?_⟩) (by assumption) ?_
        rotate_left 1
        · intro W hSw
          obtain ⟨s1, s2⟩ := hSw
          go_simp
          try with_reducible rfl
        try simp only [Act.put, List.setIfInBounds_toArray, List.set_cons_zero, List.set_cons_succ]
        refine wpAnyT_take (i := 4) (oi := { dst := some 169, op := .move (.tmp 1), type := 63, pos := "dag.go:168", after := #[], guard := none }) (v := ?_) rfl (by kernel_rfl) (by kernel_rfl) (by kernel_rfl) (by kernel_rfl) (fun _ _ _ h => h) (Or.inl ⟨by rfl, ?_⟩) (by assumption) ?_
        rotate_left 1
        · intro W hSw
          obtain ⟨s1, s2⟩ := hSw
          go_simp
          try with_reducible rfl
        try simp only [Act.put, List.setIfInBounds_toArray, List.set_cons_zero, List.set_cons_succ]
        refine wpAnyT_take (i := 5) (oi := { dst := some 170, op := .nilCheck (.tmp 169), type := 0, pos := "dag.go:168", after := #[{ on := 4, ground := .data }], guard := none }) (v := ?_) rfl (by kernel_rfl) (by kernel_rfl) (by kernel_rfl) (by kernel_rfl) (fun _ _ _ h => h) (Or.inl ⟨by rfl, ?_⟩) (by assumption) ?_
        rotate_left 1
        · intro W hSw
          obtain ⟨s1, s2⟩ := hSw
          go_simp
          try with_reducible rfl
        try simp only [Act.put, List.setIfInBounds_toArray, List.set_cons_zero, List.set_cons_succ]
        refine wpAnyT_take (i := 6) (oi := { dst := some 171, op := .fieldAddr 67 (.tmp 170) 0, type := 0, pos := "dag.go:168", after := #[{ on := 5, ground := .data }], guard := none }) (v := ?_) rfl (by kernel_rfl) (by kernel_rfl) (by kernel_rfl) (by kernel_rfl) (fun _ _ _ h => h) (Or.inl ⟨by rfl, ?_⟩) (by assumption) ?_
        rotate_left 1
        · intro W hSw
          obtain ⟨s1, s2⟩ := hSw
          go_simp
          try with_reducible rfl
        try simp only [Act.put, List.setIfInBounds_toArray, List.set_cons_zero, List.set_cons_succ]
        refine wpAnyT_take (i := 7) (oi := { dst := some 172, op := .fieldAddr 38 (.tmp 171) 0, type := 0, pos := "dag.go:168", after := #[{ on := 6, ground := .data }], guard := none }) (v := ?_) rfl (by kernel_rfl) (by kernel_rfl) (by kernel_rfl) (by kernel_rfl) (fun _ _ _ h => h) (Or.inl ⟨by rfl, ?_⟩) (by assumption) ?_
        rotate_left 1
        · intro W hSw
          obtain ⟨s1, s2⟩ := hSw
          go_simp
          try with_reducible rfl
        try simp only [Act.put, List.setIfInBounds_toArray, List.set_cons_zero, List.set_cons_succ]
        refine wpAnyT_take (i := 8) (oi := { dst := some 173, op := .load 9 (.tmp 172), type := 9, pos := "dag.go:168", after := #[{ on := 7, ground := .data }], guard := none }) (v := ?_) rfl (by kernel_rfl) (by kernel_rfl) (by kernel_rfl) (by kernel_rfl) (fun _ _ _ h => h) (Or.inl ⟨by rfl, ?_⟩) (by assumption) ?_
        rotate_left 1
        · intro W hSw
          obtain ⟨s1, s2⟩ := hSw
          go_simp
          try with_reducible rfl
        try simp only [Act.put, List.setIfInBounds_toArray, List.set_cons_zero, List.set_cons_succ]
        refine wpAnyT_last (o := { dst := none, op := .mapUpdate 58 (.tmp 168) (.tmp 173) (.const (Go.Value.bool true)), type := 0, pos := "dag.go:168", after := #[{ on := 3, ground := .data }, { on := 8, ground := .data }, { on := 0, ground := .phase }, { on := 1, ground := .phase }, { on := 2, ground := .phase }, { on := 3, ground := .phase }, { on := 4, ground := .phase }, { on := 5, ground := .phase }, { on := 6, ground := .phase }, { on := 7, ground := .phase }, { on := 8, ground := .phase }], guard := none }) (by kernel_rfl) rfl (fun K hK => ?_)
        go_simp
        refine hK.out _ _ ?_
        clear hK K
        try simp only [Act.put, List.setIfInBounds_toArray, List.set_cons_zero, List.set_cons_succ]
        refine wpAnyT_done (by kernel_rfl) ?_ _
        have d8 := hj5.out.is.c8
        have z8 := hj5.out.is.fz 8
        dsimp only at d8
        clear hup
        go_wp2_with fail
        go_end0
        refine ⟨rfl, col', _, ⟨hj5.out.is.setStale true, hj5.out.std.keep (hj5.out.is.keepSet 8 _) (by omega), hj5.out.keep.trans ((hj5.out.is.keepSet 8 _).imp fun c hc => (outC_ne hc).1)⟩, HL'.out, ?_⟩
        have he : r'.ends = n.e.d.prev.foldl delE d2.ends := by rw [show r'.ends = r'.d.ends from rfl, HD.out, Hqe.out]
        have h9 := HD.out
        unfold RmD.close
        rw [if_neg (by decide), if_pos rfl]
        unfold Rm.d at h9 ⊢
        simp only [RmD.mk.injEq] at h9 ⊢
        exact ⟨h9.1, h9.2.1, h9.2.2.1, h9.2.2.2.1, h9.2.2.2.2.1, h9.2.2.2.2.2.1, by rw [he]; rfl, h9.2.2.2.2.2.2.2.1, trivial, h9.2.2.2.2.2.2.2.2.2⟩
  · clear c6
    have hst : Hid (JAt w col k R (r.ns.map nkey) n.blk n.e 4 ({ d2.setNd ⟨n.e.d, 4, bl, afterF n.e.d 4 bl⟩ with order := d2.order ++ [n.e.d.id], evs := d2.evs ++ [n.e.d], top := max d2.top n.e.d.depth }) wc) := ⟨col', r', b', bl', a', al', HJ.out, HN'.out, HL'.out, HD.out⟩
    clear HJ HN' HD HL'
    go_wp2_with fail
    clear c22
    obtain ⟨col', r', b', bl', a', al', hjs, hn', hl', hd⟩ := hst.out
    have HJ := Lib.hid hjs; have HN' := Lib.hid hn'; have HD := Lib.hid hd; have HL' := Lib.hid hl'
    have hi0 : wc.cell? ⟨n.blk, 0, none⟩ = some (.string n.e.d.id) := ((hjs.is.rest.nd _ hn').at_ 0).trans rfl
    have hrf : wc.cell? ⟨R, 5, none⟩ = some (.slice r'.rj.a r'.rj.n r'.rj.c) := hjs.is.c5
    have hS : ∀ W, Fresh wc W → W.cell? ⟨n.blk, 0, none⟩ = some (.string n.e.d.id) ∧ W.cell? ⟨R, 5, none⟩ = some (.slice r'.rj.a r'.rj.n r'.rj.c) := fun W hW => ⟨hW.keep hi0, hW.keep hrf⟩
    have HS := Lib.hid hS
    have hlst : r'.rejected = d2.rejected := by rw [show r'.rejected = r'.d.rejected from rfl, hd]; rfl
    have hlen : r'.rejected.length < 4096 := by rw [hlst]; exact Hd2.out.2.2
    have Hlst := Lib.hid hlst
    clear hlst
    clear hjs hn' hd hl' hi0 hrf hS
    refine wp_region_T (fun W => W.cell? ⟨n.blk, 0, none⟩ = some (.string n.e.d.id) ∧ W.cell? ⟨R, 5, none⟩ = some (.slice r'.rj.a r'.rj.n r'.rj.c)) 14 (by kernel_rfl) ?_ (fun hHeld => ?_)
    · exact HS.out _ (Fresh.rfl' wc).drew
    refine wpAnyT_take (i := 0) (oi := { dst := some 133, op := .move (.tmp 0), type := 23, pos := "dag.go:163", after := #[], guard := none }) (v := ?_) rfl (by kernel_rfl) (by kernel_rfl) (by kernel_rfl) (by kernel_rfl) (fun _ _ _ h => h) (Or.inl ⟨by rfl, ?_⟩) (by assumption) ?_
    rotate_left 1
    · intro W hSw
      obtain ⟨s1, s2⟩ := hSw
      go_simp
      try with_reducible rfl
    try simp only [Act.put, List.setIfInBounds_toArray, List.set_cons_zero, List.set_cons_succ]
    refine wpAnyT_take (i := 1) (oi := { dst := some 134, op := .move (.tmp 0), type := 23, pos := "dag.go:163", after := #[], guard := none }) (v := ?_) rfl (by kernel_rfl) (by kernel_rfl) (by kernel_rfl) (by kernel_rfl) (fun _ _ _ h => h) (Or.inl ⟨by rfl, ?_⟩) (by assumption) ?_
    rotate_left 1
    · intro W hSw
      obtain ⟨s1, s2⟩ := hSw
      go_simp
      try with_reducible rfl
    try simp only [Act.put, List.setIfInBounds_toArray, List.set_cons_zero, List.set_cons_succ]
    refine wpAnyT_take (i := 2) (oi := { dst := some 135, op := .nilCheck (.tmp 134), type := 0, pos := "dag.go:163", after := #[{ on := 1, ground := .data }], guard := none }) (v := ?_) rfl (by kernel_rfl) (by kernel_rfl) (by kernel_rfl) (by kernel_rfl) (fun _ _ _ h => h) (Or.inl ⟨by rfl, ?_⟩) (by assumption) ?_
    rotate_left 1
    · intro W hSw
      obtain ⟨s1, s2⟩ := hSw
      go_simp
      try with_reducible rfl
    try simp only [Act.put, List.setIfInBounds_toArray, List.set_cons_zero, List.set_cons_succ]
    refine wpAnyT_take (i := 3) (oi := { dst := some 136, op := .fieldAddr 60 (.tmp 135) 5, type := 0, pos := "dag.go:163", after := #[{ on := 2, ground := .data }], guard := none }) (v := ?_) rfl (by kernel_rfl) (by kernel_rfl) (by kernel_rfl) (by kernel_rfl) (fun _ _ _ h => h) (Or.inl ⟨by rfl, ?_⟩) (by assumption) ?_
    rotate_left 1
    · intro W hSw
      obtain ⟨s1, s2⟩ := hSw
      go_simp
      try with_reducible rfl
    try simp only [Act.put, List.setIfInBounds_toArray, List.set_cons_zero, List.set_cons_succ]
    refine wpAnyT_take (i := 4) (oi := { dst := some 137, op := .load 30 (.tmp 136), type := 30, pos := "dag.go:163", after := #[{ on := 3, ground := .data }], guard := none }) (v := ?_) rfl (by kernel_rfl) (by kernel_rfl) (by kernel_rfl) (by kernel_rfl) (fun _ _ _ h => h) (Or.inl ⟨by rfl, ?_⟩) (by assumption) ?_
    rotate_left 1
    · intro W hSw
      obtain ⟨s1, s2⟩ := hSw
      go_simp
      try with_reducible rfl
    try simp only [Act.put, List.setIfInBounds_toArray, List.set_cons_zero, List.set_cons_succ]
    refine wpAnyT_take (i := 5) (oi := { dst := some 138, op := .move (.tmp 1), type := 63, pos := "dag.go:163", after := #[], guard := none }) (v := ?_) rfl (by kernel_rfl) (by kernel_rfl) (by kernel_rfl) (by kernel_rfl) (fun _ _ _ h => h) (Or.inl ⟨by rfl, ?_⟩) (by assumption) ?_
    rotate_left 1
    · intro W hSw
      obtain ⟨s1, s2⟩ := hSw
      go_simp
      try with_reducible rfl
    try simp only [Act.put, List.setIfInBounds_toArray, List.set_cons_zero, List.set_cons_succ]
    refine wpAnyT_take (i := 6) (oi := { dst := some 139, op := .nilCheck (.tmp 138), type := 0, pos := "dag.go:163", after := #[{ on := 5, ground := .data }], guard := none }) (v := ?_) rfl (by kernel_rfl) (by kernel_rfl) (by kernel_rfl) (by kernel_rfl) (fun _ _ _ h => h) (Or.inl ⟨by rfl, ?_⟩) (by assumption) ?_
    rotate_left 1
    · intro W hSw
      obtain ⟨s1, s2⟩ := hSw
      go_simp
      try with_reducible rfl
    try simp only [Act.put, List.setIfInBounds_toArray, List.set_cons_zero, List.set_cons_succ]
    refine wpAnyT_take (i := 7) (oi := { dst := some 140, op := .fieldAddr 67 (.tmp 139) 0, type := 0, pos := "dag.go:163", after := #[{ on := 6, ground := .data }], guard := none }) (v := ?_) rfl (by kernel_rfl) (by kernel_rfl) (by kernel_rfl) (by kernel_rfl) (fun _ _ _ h => h) (Or.inl ⟨by rfl, ?_⟩) (by assumption) ?_
    rotate_left 1
    · intro W hSw
      obtain ⟨s1, s2⟩ := hSw
      go_simp
      try with_reducible rfl
    try simp only [Act.put, List.setIfInBounds_toArray, List.set_cons_zero, List.set_cons_succ]
    refine wpAnyT_take (i := 8) (oi := { dst := some 141, op := .fieldAddr 38 (.tmp 140) 0, type := 0, pos := "dag.go:163", after := #[{ on := 7, ground := .data }], guard := none }) (v := ?_) rfl (by kernel_rfl) (by kernel_rfl) (by kernel_rfl) (by kernel_rfl) (fun _ _ _ h => h) (Or.inl ⟨by rfl, ?_⟩) (by assumption) ?_
    rotate_left 1
    · intro W hSw
      obtain ⟨s1, s2⟩ := hSw
      go_simp
      try with_reducible rfl
    try simp only [Act.put, List.setIfInBounds_toArray, List.set_cons_zero, List.set_cons_succ]
    refine wpAnyT_take (i := 9) (oi := { dst := some 142, op := .load 9 (.tmp 141), type := 9, pos := "dag.go:163", after := #[{ on := 8, ground := .data }], guard := none }) (v := ?_) rfl (by kernel_rfl) (by kernel_rfl) (by kernel_rfl) (by kernel_rfl) (fun _ _ _ h => h) (Or.inl ⟨by rfl, ?_⟩) (by assumption) ?_
    rotate_left 1
    · intro W hSw
      obtain ⟨s1, s2⟩ := hSw
      go_simp
      try with_reducible rfl
    try simp only [Act.put, List.setIfInBounds_toArray, List.set_cons_zero, List.set_cons_succ]
    refine wpAnyT_step (i := 10) (o := { dst := some 143, op := .buildSlice 30 1 #[(0, .tmp 142)], type := 30, pos := "dag.go:163", after := #[{ on := 9, ground := .data }], guard := none }) (by kernel_rfl) rfl (fun K hK => ?_)
    go_simp
    have HFa : Hid (Fresh wc (wc.drew.alloc (.cells #[.string n.e.d.id] 9))) := (Fresh.rfl' wc).drew.alloc (Nat.le_refl _) _
    refine hK.out _ _ (HS.out _ HFa.out) (fun hHeld => ?_)
    clear hK K
    try simp only [Act.put, List.setIfInBounds_toArray, List.set_cons_zero, List.set_cons_succ]
    refine wpAnyT_step (i := 11) (o := { dst := some 144, op := .call { callee := Go.Callee.builtin Go.Builtin.append, args := #[.tmp 137, .tmp 143], argTypes := #[30, 30] }, type := 30, pos := "dag.go:163", after := #[{ on := 4, ground := .data }, { on := 10, ground := .data }], guard := none }) (by kernel_rfl) rfl (fun K hK => ?_)
    refine step_append_src2 _ rfl (.tmp 137) (.tmp 143) 30 30 rfl 0 9 (.string ⟨#[]⟩) 1 16 Tryz.underlying30 info9 rfl (by decide) (sv r'.rj) r'.rejected.length _ rfl (HJ.out.fresh HFa.out).is.rest.rj.row (.slice (some ⟨wc.heap.size, 0, none⟩) 1 1) 1 [.string n.e.d.id] rfl (src_one _ _ _ Tryz.underlying30 (heap_alloc_new _ _) rfl) (by unfold maxLen; omega) (by omega) (Nat.zero_le _) ?_
    intro v' w3 hown hg hbl
    obtain ⟨va, vn, vc, rfl⟩ := own_slice hown
    have hgr := (HJ.out.fresh HFa.out).is.grown (HJ.out.fresh HFa.out).is.rest.rj (by omega) hg
    have hcR : w3.cell? ⟨R, 5, none⟩ = some (.slice r'.rj.a r'.rj.n r'.rj.c) := (cell_of_block hgr.1 _).trans (HS.out _ HFa.out).2
    have hci : w3.cell? ⟨n.blk, 0, none⟩ = some (.string n.e.d.id) := (cell_of_block (hgr.2 _ HN'.out) _).trans (HS.out _ HFa.out).1
    have hzR : w3.frozen? ⟨R, 5, none⟩ = false := (frozen_of_block hgr.1 _).trans ((HJ.out.fresh HFa.out).is.fz 5)
    obtain ⟨col2, h5, h6, h7⟩ := (HJ.out.fresh HFa.out).is.appRj (HJ.out.fresh HFa.out).std ⟨va, vn, vc⟩ n.e.d.id (by simpa using hown) hg hbl hlen
    have H5 := Lib.hid h5; have H6 := Lib.hid h6; have H7 := Lib.hid h7
    clear hown hg hbl hgr h5 h6 h7
    refine hK.out _ _ ⟨hci, hcR⟩ (fun hHeld => ?_)
    clear hK K
    try simp only [Act.put, List.setIfInBounds_toArray, List.set_cons_zero, List.set_cons_succ]
    refine wpAnyT_step (i := 12) (o := { dst := some 145, op := .nilCheck (.tmp 133), type := 0, pos := "dag.go:163", after := #[{ on := 0, ground := .data }, { on := 0, ground := .phase }, { on := 1, ground := .phase }, { on := 2, ground := .phase }, { on := 3, ground := .phase }, { on := 4, ground := .phase }, { on := 5, ground := .phase }, { on := 6, ground := .phase }, { on := 7, ground := .phase }, { on := 8, ground := .phase }, { on := 9, ground := .phase }, { on := 10, ground := .phase }, { on := 11, ground := .phase }], guard := none }) (by kernel_rfl) rfl (fun K hK => ?_)
    go_simp
    refine hK.out _ _ ⟨hci, hcR⟩ (fun hHeld => ?_)
    clear hK K
    try simp only [Act.put, List.setIfInBounds_toArray, List.set_cons_zero, List.set_cons_succ]
    refine wpAnyT_step (i := 13) (o := { dst := some 146, op := .fieldAddr 60 (.tmp 145) 5, type := 0, pos := "dag.go:163", after := #[{ on := 12, ground := .data }, { on := 0, ground := .phase }, { on := 1, ground := .phase }, { on := 2, ground := .phase }, { on := 3, ground := .phase }, { on := 4, ground := .phase }, { on := 5, ground := .phase }, { on := 6, ground := .phase }, { on := 7, ground := .phase }, { on := 8, ground := .phase }, { on := 9, ground := .phase }, { on := 10, ground := .phase }, { on := 11, ground := .phase }], guard := none }) (by kernel_rfl) rfl (fun K hK => ?_)
    go_simp
    refine hK.out _ _ ⟨hci, hcR⟩ (fun hHeld => ?_)
    clear hK K
    try simp only [Act.put, List.setIfInBounds_toArray, List.set_cons_zero, List.set_cons_succ]
    refine wpAnyT_last (o := { dst := none, op := .store 30 (.tmp 146) (.tmp 144), type := 0, pos := "dag.go:163", after := #[{ on := 13, ground := .data }, { on := 11, ground := .data }, { on := 11, ground := .chain }, { on := 0, ground := .phase }, { on := 1, ground := .phase }, { on := 2, ground := .phase }, { on := 3, ground := .phase }, { on := 4, ground := .phase }, { on := 5, ground := .phase }, { on := 6, ground := .phase }, { on := 7, ground := .phase }, { on := 8, ground := .phase }, { on := 9, ground := .phase }, { on := 10, ground := .phase }, { on := 11, ground := .phase }], guard := none }) (by kernel_rfl) rfl (fun K hK => ?_)
    go_simp
    refine hK.out _ _ ?_
    clear hK K
    try simp only [Act.put, List.setIfInBounds_toArray, List.set_cons_zero, List.set_cons_succ]
    refine wpAnyT_done (by kernel_rfl) ?_ _
    go_wp2_with fail
    go_end0
    refine ⟨rfl, col2, _, ⟨H5.out, H6.out, (HJ.out.fresh HFa.out).keep.trans H7.out⟩, HL'.out, ?_⟩
    unfold RmD.close
    rw [if_pos rfl]
    have h9 := HD.out
    unfold Rm.d at h9 ⊢
    simp only [RmD.mk.injEq] at h9 ⊢
    exact ⟨h9.1, h9.2.1, h9.2.2.1, h9.2.2.2.1, h9.2.2.2.2.1, congrArg (· ++ [n.e.d.id]) Hlst.out, h9.2.2.2.2.2.2.1, h9.2.2.2.2.2.2.2.1, h9.2.2.2.2.2.2.2.2.1, h9.2.2.2.2.2.2.2.2.2⟩
end Go.Proofs.YtmjclmmiljlahaaGreat
