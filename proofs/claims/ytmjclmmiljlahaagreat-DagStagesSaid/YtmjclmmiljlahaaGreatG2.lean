/-
  Parts of a proof: the authorisation rules. No condition.
-/
import Derived.Test.YtmjclmmiljlahaaGreatG1
set_option linter.unusedVariables false
set_option linter.unusedSimpArgs false
namespace Go.Proofs.YtmjclmmiljlahaaGreat
open Go.RowKit

theorem jv_zero (w : World) (col : Col) : JVIs w col .zero .nil .nil :=
  .mk (fun _ => default) (fun _ => default) ⟨by simp [JV.zero, JV.list], by simp [JV.zero, JV.list], .inl ⟨rfl, rfl⟩⟩ ⟨by simp [JV.zero, JV.fields], by simp [JV.zero, JV.fields], .inl ⟨rfl, rfl⟩⟩
    (fun i hi => by simp [JV.zero, JV.list] at hi) (fun i hi => by simp [JV.zero, JV.fields] at hi)
abbrev jvV (v : JV) (a b : SV) : Value := .agg #[.int .i64 v.kind, .bool v.b, .int .i64 v.n, .string v.text, sv a, sv b]
attribute [go_sem] jvV

def fieldIn (name : ByteArray) : List (ByteArray × JV) → Option JV
  | [] => none
  | f :: l => if f.1 = name then some f.2 else fieldIn name l
def fieldF (v : JV) (name : ByteArray) : Option JV := if v.kind = 5 then fieldIn name v.fields else none

set_option maxRecDepth 10000 in
set_option maxHeartbeats 800000 in
theorem field_none (v : JV) (a b : SV) (name : ByteArray) (w : World) (hk : v.kind ≠ 5) :
    Calls Tryz.prog 149 #[jvV v a b, .string name] w fun e w' => e = .returned (.tuple #[jvV .zero .nil .nil, .bool false]) ∧ Fresh w w' := by
  have hk' : (v.kind == 5) = false := by simpa using hk
  clear hk
  go_enter Tryz.func149, Tryz.ntmps149
  go_wp2_with fail
  exact bodyPost_ret (v := .tuple #[jvV .zero .nil .nil, .bool false]) (by simp [results, Tryz.results149, go_sem, jvV, JV.zero, JV.kind, JV.b, JV.n, JV.text]) rfl
    ⟨rfl, ((Fresh.rfl' w).alloc (Nat.le_refl _) _).alloc (by simp) _⟩

theorem fieldIn_hit {name : ByteArray} {l : List (ByteArray × JV)} {k : Nat} (h : k < l.length) (hp : (l.getD k default).1 = name) : fieldIn name (l.drop k) = some (l.getD k default).2 := by
  have hd : l.getD k default = l[k] := by simp [h]
  rw [hd] at hp ⊢
  rw [drop_cons h, fieldIn, if_pos hp]
theorem fieldIn_miss {name : ByteArray} {l : List (ByteArray × JV)} {k : Nat} (h : k < l.length) (hp : ¬ (l.getD k default).1 = name) : fieldIn name (l.drop k) = fieldIn name (l.drop (k + 1)) := by
  have hd : l.getD k default = l[k] := by simp [h]
  rw [hd] at hp
  rw [drop_cons h, fieldIn, if_neg hp]

theorem ret_val {a b : Value} (h : a = b) : Ending.returned a = .returned b := by rw [h]

set_option maxRecDepth 10000 in
set_option maxHeartbeats 1600000 in
theorem field_some (v : JV) (a b : SV) (name : ByteArray) (col : Col) (w : World) (hk : v.kind = 5) (hv : JVIs w col v a b) :
    Calls Tryz.prog 149 #[jvV v a b, .string name] w fun e w' => ∃ a' b', e = .returned (.tuple #[jvV ((fieldIn name v.fields).getD .zero) a' b', .bool (fieldIn name v.fields).isSome]) ∧
      JVIs w' col ((fieldIn name v.fields).getD .zero) a' b' ∧ Fresh w w' := by
  have hk' : (v.kind == 5) = true := by simpa using hk
  clear hk
  obtain ⟨A, B, ha, hb, hl, hf⟩ := hv
  obtain ⟨ao, cap, hbv, hc, hm, hlen, hj⟩ := hb.rows (fun i hi => by simp [vCells])
  obtain ⟨ba, bn, bc⟩ := b
  obtain ⟨rfl, rfl, rfl⟩ : ba = ao ∧ bn = v.fields.length ∧ bc = cap := by simpa [sv] using hbv
  clear hbv
  have Hj := Lib.hid hj
  have Hf := Lib.hid hf
  have Hz : Hid (∀ w', Fresh w w' → JVIs w' col .zero .nil .nil) := fun w' _ => jv_zero w' col
  clear hj ha hb hl hf
  go_enter Tryz.func149, Tryz.ntmps149
  go_wp2_with fail
  refine hideWorld _ (fun W => (W.cell? ⟨w.heap.size + 1, 0, none⟩ = some (.int .i64 0) ∧ W.cell? ⟨w.heap.size + 1, 1, none⟩ = some (.bool false) ∧ W.cell? ⟨w.heap.size + 1, 2, none⟩ = some (.int .i64 0) ∧
    W.cell? ⟨w.heap.size + 1, 3, none⟩ = some (.string ⟨#[]⟩) ∧ W.cell? ⟨w.heap.size + 1, 4, none⟩ = some (.slice none 0 0) ∧ W.cell? ⟨w.heap.size + 1, 5, none⟩ = some (.slice none 0 0)) ∧
    (∀ o, W.frozen? ⟨w.heap.size + 1, o, none⟩ = false) ∧ Fresh w W ∧ w.heap.size + 1 < W.heap.size) _ ⟨by refine ⟨?_, ?_, ?_, ?_, ?_, ?_⟩ <;> go_simp, fun o => by go_simp, ((Fresh.rfl' w).alloc (Nat.le_refl _) _).alloc (by simp) _, by simp⟩ ?_
  rintro W ⟨⟨c0, c1, c2, c3, c4, c5⟩, hfr, hWF, hsz⟩
  have HWF := Lib.hid hWF
  have Hfr := Lib.hid hfr
  clear hfr hWF
  go_loopw [14] (fun i wr => ∃ k : Nat, k ≤ v.fields.length ∧ i = .int .i64 k ∧ Hid (Fresh W wr) ∧ Hid (fieldIn name (v.fields.drop k) = fieldIn name v.fields)) (fun i _ => v.fields.length - (intOf i).toNat)
  case atStart => exact ⟨0, Nat.zero_le _, rfl, Fresh.rfl' _, rfl⟩
  case round =>
    obtain ⟨k, hk, rfl, hfw, hr⟩ := hrel
    have d0 := hfw.out.keep c0
    have d1 := hfw.out.keep c1
    have d2 := hfw.out.keep c2
    have d3 := hfw.out.keep c3
    have d4 := hfw.out.keep c4
    have d5 := hfw.out.keep c5
    have hszr := Nat.lt_of_lt_of_le hsz hfw.out.size
    have hfrr : ∀ o, wr.frozen? ⟨w.heap.size + 1, o, none⟩ = false := fun o => (hfw.out.frees _ _ hsz).trans (Hfr.out o)
    clear c0 c1 c2 c3 c4 c5
    by_cases hlt : k < v.fields.length
    · obtain ⟨bb, off, rfl, hbb, _, hcells⟩ := Hj.out k hlt
      have hff := Hf.out k hlt
      have hh1 := fieldIn_hit (name := name) hlt
      have hh2 := fieldIn_miss (name := name) hlt
      generalize v.fields.getD k default = fk at hcells hff hh1 hh2
      generalize B k = Bk at hcells hff
      obtain ⟨nm, u⟩ := fk
      obtain ⟨x1, x2⟩ := Bk
      have hx : ∀ j y, j < 7 → (Value.string nm :: vCells u x1 x2)[j]? = some y → wr.cell? ⟨bb, off + k * 7 + j, none⟩ = some y := fun j y hj hu =>
        hfw.out.keep (HWF.out.keep ((hcells j hj).trans hu))
      have e0 := hx 0 _ (by omega) rfl
      have e1 := hx 1 _ (by omega) rfl
      have e2 := hx 2 _ (by omega) rfl
      have e3 := hx 3 _ (by omega) rfl
      have e4 := hx 4 _ (by omega) rfl
      have e5 := hx 5 _ (by omega) rfl
      have e6 := hx 6 _ (by omega) rfl
      clear hx hcells
      rw [Nat.add_zero] at e0
      by_cases hp : nm = name
      · have hh := hh1 hp
        have HR : Hid (fieldIn name v.fields = some u) := by rw [← hr.out]; exact hh
        have hpp : (nm.toList == name.toList) = true := by rw [beq_toList]; simpa using hp
        have HJ : Hid (∀ w', Fresh w w' → JVIs w' col u x1 x2) := fun w' hw' => hff.fresh hw'
        clear hr hh hp hh1 hh2 hff
        go_wp2_with fail
        refine bodyPost_ret (v := .tuple #[jvV u x1 x2, .bool true]) ?_ rfl ⟨x1, x2, by rw [HR.out]; rfl, ?_, ?_⟩
        · simp [results, Tryz.results149, go_sem, *]
        · rw [HR.out]; refine HJ.out _ ?_
          repeat (first | (with_reducible refine Below.setCell ?_ ?hb _; case hb => simp) | (with_reducible refine Below.alloc ?_ ?hb _; case hb => (simp; omega)) | with_reducible exact HWF.out.trans' hfw.out)
        · repeat (first | (with_reducible refine Below.setCell ?_ ?hb _; case hb => simp) | (with_reducible refine Below.alloc ?_ ?hb _; case hb => (simp; omega)) | with_reducible exact HWF.out.trans' hfw.out)
      · have hh := hh2 hp
        have HR : Hid (fieldIn name (v.fields.drop (k + 1)) = fieldIn name v.fields) := by rw [← hh]; exact hr.out
        have hpp : (nm.toList == name.toList) = false := by rw [beq_toList]; simpa using hp
        clear hr hh hp hh1 hh2 hff
        go_wp2_with fail
        go_roundw
        case rel => exact ⟨k + 1, by omega, by go_num, hfw.out.alloc hfw.out.size _, HR⟩
        case measure => simp [intOf]; omega
    · have HR : Hid (fieldIn name v.fields = none) := by rw [← hr.out, List.drop_of_length_le (by omega)]; rfl
      clear hr
      go_wp2_with fail
      refine bodyPost_ret (v := .tuple #[jvV .zero .nil .nil, .bool false]) ?_ rfl ⟨.nil, .nil, by rw [HR.out]; rfl, ?_, ?_⟩
      · simp [results, Tryz.results149, go_sem, JV.zero, JV.kind, JV.b, JV.n, JV.text, *]
      · rw [HR.out]; exact jv_zero _ _
      · repeat (first | (with_reducible refine Below.setCell ?_ ?hb _; case hb => simp) | (with_reducible refine Below.alloc ?_ ?hb _; case hb => (simp; omega)) | with_reducible exact HWF.out.trans' hfw.out)
theorem field_any (v : JV) (a b : SV) (name : ByteArray) (col : Col) (w : World) (hv : JVIs w col v a b) :
    Calls Tryz.prog 149 #[jvV v a b, .string name] w fun e w' => ∃ a' b', e = .returned (.tuple #[jvV ((fieldF v name).getD .zero) a' b', .bool (fieldF v name).isSome]) ∧
      JVIs w' col ((fieldF v name).getD .zero) a' b' ∧ Fresh w w' := by
  unfold fieldF
  by_cases hk : v.kind = 5
  · rw [if_pos hk]; exact field_some v a b name col w hk hv
  · rw [if_neg hk]
    refine (field_none v a b name w hk).mono ?_
    rintro e w' ⟨rfl, hf⟩
    exact ⟨.nil, .nil, rfl, jv_zero _ _, hf⟩

def wordF (v : JV) (name : ByteArray) : Option ByteArray := match fieldF v name with | some u => if u.kind = 3 then some u.text else none | none => none
def numberF (v : JV) (name : ByteArray) : Option Int := match fieldF v name with | some u => if u.kind = 2 then some u.n else none | none => none

set_option maxRecDepth 10000 in
set_option maxHeartbeats 800000 in
theorem word_any (v : JV) (a b : SV) (name : ByteArray) (col : Col) (w : World) (hv : JVIs w col v a b) :
    Calls Tryz.prog 119 #[jvV v a b, .string name] w fun e w' => e = .returned (.tuple #[.string ((wordF v name).getD ⟨#[]⟩), .bool (wordF v name).isSome]) ∧ Fresh w w' := by
  have hfa := fun w' (h : Fresh w w') => field_any v a b name col w' (hv.fresh h)
  have Hfa := Lib.hid hfa
  clear hfa hv
  unfold wordF
  cases hf : fieldF v name with
  | none =>
    rw [hf] at Hfa
    go_enter Tryz.func119, Tryz.ntmps119
    go_wp2_with fail
    refine (Hfa.out _ ((Fresh.rfl' w).alloc (Nat.le_refl _) _)).mono ?_
    rintro e w1 ⟨a', b', rfl, _, hf1⟩
    have H1 := Lib.hid hf1; clear hf1
    go_wp2_with fail
    go_ret2
    refine ⟨rfl, ?_⟩
    have hx : Fresh w w1 := fcomp ((Fresh.rfl' w).alloc (Nat.le_refl _) _) H1.out
    repeat (first | (with_reducible refine Below.setCell ?_ ?hb _; case hb => simp) | (with_reducible refine Below.alloc ?_ ?hb _; case hb => exact hx.size) | with_reducible exact hx)
  | some u =>
    rw [hf] at Hfa
    by_cases hk : u.kind = 3
    all_goals
      have hk' := hk
      rw [← beq_iff_eq (a := u.kind)] at hk'
      try rw [Bool.not_eq_true] at hk'
      have hk2 : (u.kind != 3) = !(u.kind == 3) := rfl
      rw [hk'] at hk2
      have HK := Lib.hid hk
      clear hk hk'
      go_enter Tryz.func119, Tryz.ntmps119
      go_wp2_with fail
      refine (Hfa.out _ ((Fresh.rfl' w).alloc (Nat.le_refl _) _)).mono ?_
      rintro e w1 ⟨a', b', rfl, _, hf1⟩
      have H1 := Lib.hid hf1; clear hf1
      dsimp only [Option.getD_some, Option.isSome_some]
      go_wp2_with fail
      go_ret2
      refine ⟨?_, ?_⟩
      · first | rfl | (dsimp only []; rw [if_pos HK.out]; rfl) | (dsimp only []; rw [if_neg HK.out]; rfl)
      have hx : Fresh w w1 := fcomp ((Fresh.rfl' w).alloc (Nat.le_refl _) _) H1.out
      repeat (first | (with_reducible refine Below.setCell ?_ ?hb _; case hb => simp) | (with_reducible refine Below.alloc ?_ ?hb _; case hb => exact hx.size) | with_reducible exact hx)

set_option maxRecDepth 10000 in
set_option maxHeartbeats 800000 in
theorem number_any (v : JV) (a b : SV) (name : ByteArray) (col : Col) (w : World) (hv : JVIs w col v a b) :
    Calls Tryz.prog 154 #[jvV v a b, .string name] w fun e w' => e = .returned (.tuple #[.int .i64 ((numberF v name).getD 0), .bool (numberF v name).isSome]) ∧ Fresh w w' := by
  have hfa := fun w' (h : Fresh w w') => field_any v a b name col w' (hv.fresh h)
  have Hfa := Lib.hid hfa
  clear hfa hv
  unfold numberF
  cases hf : fieldF v name with
  | none =>
    rw [hf] at Hfa
    go_enter Tryz.func154, Tryz.ntmps154
    go_wp2_with fail
    refine (Hfa.out _ ((Fresh.rfl' w).alloc (Nat.le_refl _) _)).mono ?_
    rintro e w1 ⟨a', b', rfl, _, hf1⟩
    have H1 := Lib.hid hf1; clear hf1
    go_wp2_with fail
    go_ret2
    refine ⟨rfl, ?_⟩
    have hx : Fresh w w1 := fcomp ((Fresh.rfl' w).alloc (Nat.le_refl _) _) H1.out
    repeat (first | (with_reducible refine Below.setCell ?_ ?hb _; case hb => simp) | (with_reducible refine Below.alloc ?_ ?hb _; case hb => exact hx.size) | with_reducible exact hx)
  | some u =>
    rw [hf] at Hfa
    by_cases hk : u.kind = 2
    all_goals
      have hk' := hk
      rw [← beq_iff_eq (a := u.kind)] at hk'
      try rw [Bool.not_eq_true] at hk'
      have hk2 : (u.kind != 2) = !(u.kind == 2) := rfl
      rw [hk'] at hk2
      have HK := Lib.hid hk
      clear hk hk'
      go_enter Tryz.func154, Tryz.ntmps154
      go_wp2_with fail
      refine (Hfa.out _ ((Fresh.rfl' w).alloc (Nat.le_refl _) _)).mono ?_
      rintro e w1 ⟨a', b', rfl, _, hf1⟩
      have H1 := Lib.hid hf1; clear hf1
      dsimp only [Option.getD_some, Option.isSome_some]
      go_wp2_with fail
      go_ret2
      refine ⟨?_, ?_⟩
      · first | rfl | (dsimp only []; rw [if_pos HK.out]; rfl) | (dsimp only []; rw [if_neg HK.out]; rfl)
      have hx : Fresh w w1 := fcomp ((Fresh.rfl' w).alloc (Nat.le_refl _) _) H1.out
      repeat (first | (with_reducible refine Below.setCell ?_ ?hb _; case hb => simp) | (with_reducible refine Below.alloc ?_ ?hb _; case hb => exact hx.size) | with_reducible exact hx)

end Go.Proofs.YtmjclmmiljlahaaGreat

set_option linter.unusedVariables false
set_option linter.unusedSimpArgs false
namespace Go.Proofs.YtmjclmmiljlahaaGreat
open Go.RowKit

abbrev evV (e : EV) : Value := .agg e.cells
attribute [go_sem] evV
@[go_sem] theorem EV.at0 (e : EV) : e.cells[0]? = some (.string e.d.id) := rfl
@[go_sem] theorem EV.at1 (e : EV) : e.cells[1]? = some (.string e.d.ty) := rfl
@[go_sem] theorem EV.at2 (e : EV) : e.cells[2]? = some (.string e.d.room) := rfl
@[go_sem] theorem EV.at3 (e : EV) : e.cells[3]? = some (.string e.d.sender) := rfl
@[go_sem] theorem EV.at4 (e : EV) : e.cells[4]? = some (.bool e.d.hk) := rfl
@[go_sem] theorem EV.at5 (e : EV) : e.cells[5]? = some (.string e.d.key) := rfl
@[go_sem] theorem EV.at6 (e : EV) : e.cells[6]? = some (sv e.prev) := rfl
@[go_sem] theorem EV.at7 (e : EV) : e.cells[7]? = some (sv e.auth) := rfl
@[go_sem] theorem EV.at8 (e : EV) : e.cells[8]? = some (.int .i64 e.d.depth) := rfl
@[go_sem] theorem EV.at9 (e : EV) : e.cells[9]? = some (.int .i64 e.d.stamp) := rfl
@[go_sem] theorem EV.at10 (e : EV) : e.cells[10]? = some (.int .i64 e.d.content.kind) := rfl
@[go_sem] theorem EV.at11 (e : EV) : e.cells[11]? = some (.bool e.d.content.b) := rfl
@[go_sem] theorem EV.at12 (e : EV) : e.cells[12]? = some (.int .i64 e.d.content.n) := rfl
@[go_sem] theorem EV.at13 (e : EV) : e.cells[13]? = some (.string e.d.content.text) := rfl
@[go_sem] theorem EV.at14 (e : EV) : e.cells[14]? = some (sv e.cl) := rfl
@[go_sem] theorem EV.at15 (e : EV) : e.cells[15]? = some (sv e.cf) := rfl
@[go_sem] theorem EV.at16 (e : EV) : e.cells[16]? = some (.int .i64 e.d.raw.kind) := rfl
@[go_sem] theorem EV.at17 (e : EV) : e.cells[17]? = some (.bool e.d.raw.b) := rfl
@[go_sem] theorem EV.at18 (e : EV) : e.cells[18]? = some (.int .i64 e.d.raw.n) := rfl
@[go_sem] theorem EV.at19 (e : EV) : e.cells[19]? = some (.string e.d.raw.text) := rfl
@[go_sem] theorem EV.at20 (e : EV) : e.cells[20]? = some (sv e.rl) := rfl
@[go_sem] theorem EV.at21 (e : EV) : e.cells[21]? = some (sv e.rf) := rfl
theorem EV.size (e : EV) : e.cells.size = 22 := rfl
theorem EV.one (e : EV) : e.cells.all (·.oneCell') = true := by simp [EV.cells, Value.oneCell']
theorem info38s : (Tryz.prog.info? 38).map (·.size) = some 22 := by kernel_rfl

theorem empty_iff (s : ByteArray) : s.toList.isEmpty = decide (s = ⟨#[]⟩) := by
  rw [Bool.eq_iff_iff, decide_eq_true_iff, List.isEmpty_iff, toList_nil_iff_emptyBytes]; rfl

def isF (e : Ev) (kind : ByteArray) : Bool := decide (e.ty = kind) && (e.hk && decide (e.key = ⟨#[]⟩))

set_option maxRecDepth 10000 in
set_option maxHeartbeats 800000 in
theorem is_any (e : EV) (kind : ByteArray) (w : World) :
    Calls Tryz.prog 77 #[evV e, .string kind] w fun r w' => r = .returned (.bool (isF e.d kind)) ∧ Fresh w w' := by
  unfold isF
  rw [← empty_iff, ← beq_toList]
  cases h1 : (e.d.ty.toList == kind.toList) <;> cases h2 : e.d.hk <;> cases h3 : e.d.key.toList.isEmpty
  all_goals
    go_enter Tryz.func77, Tryz.ntmps77
    go_wp2_with fail
    go_ret
    exact ⟨rfl, (Fresh.rfl' w).alloc (Nat.le_refl _) _⟩

/-- A list of events, as a slice value reads. -/
structure EvsSl (w : World) (col : Col) (v : SV) (l : List Ev) (E : Nat → EV) : Prop where
  rows : Sl w col 22 (sv v) l.length ((List.range l.length).flatMap fun i => (E i).cells.toList)
  data : ∀ i (h : i < l.length), (E i).d = l[i]
  each : ∀ i, i < l.length → EvIs w col (E i)
theorem EvsSl.fresh {w w' : World} {col : Col} {v : SV} {l : List Ev} {E : Nat → EV} (h : EvsSl w col v l E) (hf : Fresh w w') : EvsSl w' col v l E :=
  ⟨h.rows.fresh hf, h.data, fun i hi => (h.each i hi).fresh hf⟩

def Ev.zero : Ev := ⟨⟨#[]⟩, ⟨#[]⟩, ⟨#[]⟩, ⟨#[]⟩, false, ⟨#[]⟩, [], [], 0, 0, .zero, .zero⟩
def EV.zero : EV := ⟨Ev.zero, .nil, .nil, .nil, .nil, .nil, .nil⟩

theorem str_nil (w : World) (col : Col) : StrSl w col (.slice none 0 0) [] := ⟨rfl, by simp, .inl ⟨rfl, rfl⟩⟩
theorem ev_zero (w : World) (col : Col) : EvIs w col .zero := ⟨str_nil w col, str_nil w col, jv_zero w col, jv_zero w col, by simp [EV.zero, Ev.zero]⟩

def stands (kind key : ByteArray) (e : Ev) : Bool := e.hk && (decide (e.ty = kind) && decide (e.key = key))
def findF (kind key : ByteArray) (l : List Ev) : Option Ev := l.find? (stands kind key)

theorem find_hit {kind key : ByteArray} {l : List Ev} {k : Nat} (h : k < l.length) (hp : stands kind key l[k] = true) : findF kind key (l.drop k) = some l[k] := by
  rw [drop_cons h, findF, List.find?_cons_of_pos hp]
theorem find_miss {kind key : ByteArray} {l : List Ev} {k : Nat} (h : k < l.length) (hp : stands kind key l[k] = false) : findF kind key (l.drop k) = findF kind key (l.drop (k + 1)) := by
  rw [drop_cons h, findF, List.find?_cons_of_neg (by simp [hp])]; rfl

set_option maxRecDepth 10000 in
set_option maxHeartbeats 400000 in
theorem find_any (v : SV) (l : List Ev) (E : Nat → EV) (kind key : ByteArray) (col : Col) (w : World) (hv : EvsSl w col v l E) :
    Calls Tryz.prog 122 #[sv v, .string kind, .string key] w fun r w' => ∃ e : EV, r = .returned (.tuple #[evV e, .bool (findF kind key l).isSome]) ∧
      e.d = (findF kind key l).getD .zero ∧ EvIs w' col e ∧ Fresh w w' := by
  obtain ⟨hrows, hdata, heach⟩ := hv
  obtain ⟨ao, cap, hbv, hc, hm, hlen, hj⟩ := hrows.rows (fun i hi => by simp [EV.cells])
  obtain ⟨ba, bn, bc⟩ := v
  obtain ⟨rfl, rfl, rfl⟩ : ba = ao ∧ bn = l.length ∧ bc = cap := by simpa [sv] using hbv
  clear hbv
  have Hj := Lib.hid hj
  have Hd := Lib.hid hdata
  have He := Lib.hid heach
  clear hj hrows hdata heach
  dsimp only [sv]
  go_enter Tryz.func122, Tryz.ntmps122
  go_wp2_with fail
  refine hideWorld _ (fun W => W.heap[w.heap.size]? = some (.cells EV.zero.cells 38 (0, 0)) ∧ Fresh w W ∧ w.heap.size < W.heap.size) _ ⟨by rw [heap_alloc_new]; rfl, (Fresh.rfl' w).alloc (Nat.le_refl _) _, by simp⟩ ?_
  rintro W ⟨hblk, hWF, hsz⟩
  have HWF := Lib.hid hWF
  have Hblk := Lib.hid hblk
  clear hblk hWF
  go_loopw [12] (fun i wr => ∃ k : Nat, k ≤ l.length ∧ i = .int .i64 k ∧ Hid (Fresh W wr) ∧ Hid (findF kind key (l.drop k) = findF kind key l)) (fun i _ => l.length - (intOf i).toNat)
  case atStart => exact ⟨0, Nat.zero_le _, rfl, Fresh.rfl' _, rfl⟩
  case round =>
    obtain ⟨k, hk, rfl, hfw, hr⟩ := hrel
    have hszr := Nat.lt_of_lt_of_le hsz hfw.out.size
    by_cases hlt : k < l.length
    · obtain ⟨bb, off, rfl, hbb, _, hcells⟩ := Hj.out k hlt
      have hff := He.out k hlt
      have hdd := Hd.out k hlt
      have hh1 := find_hit (kind := kind) (key := key) hlt
      have hh2 := find_miss (kind := kind) (key := key) hlt
      rw [← hdd] at hh1 hh2
      generalize E k = e at hcells hff hdd hh1 hh2
      have hx : Hid (∀ j, j < e.cells.size → wr.cell? ⟨bb, off + k * 22 + j, none⟩ = e.cells[j]?) := fun j hj => by
        have := hcells j hj
        rw [Array.getElem?_toList] at this
        rw [Array.getElem?_eq_getElem hj] at this ⊢
        exact hfw.out.keep (HWF.out.keep this)
      have hb1 : Hid (wr.heap[w.heap.size]? = some (.cells EV.zero.cells 38 (0, 0))) := (hfw.out.blocks _ hsz).trans Hblk.out
      clear hcells hdd
      unfold stands at hh1 hh2
      rw [← beq_toList, ← beq_toList] at hh1 hh2
      cases h1 : e.d.hk <;> cases h2 : (e.d.ty.toList == kind.toList) <;> cases h3 : (e.d.key.toList == key.toList)
      all_goals rw [h1, h2, h3] at hh1 hh2
      rotate_right
      · have HR : Hid (findF kind key l = some e.d) := by rw [← hr.out]; exact hh1 rfl
        have HJ : Hid (EvIs w col e) := hff
        clear hr hh1 hh2 hff
        go_wp2_with (with_reducible refine stop_op (.load 38 (.tmp 14)) rfl ?_)
        refine Stand.go ?_
        refine wpList_load_cells rfl 38 (.tmp 14) rfl bb (off + k * 22) rfl e.cells hx.out _ Tryz.underlying38 rfl info38s ?_
        go_wp2_with (with_reducible refine stop_op (.store 38 (.tmp 9) (.tmp 15)) rfl ?_)
        refine Stand.go ?_
        refine wpList_store_new rfl 38 (.tmp 9) (.tmp 15) rfl _ rfl e.cells rfl info38s rfl (EV.one e) ?_
        go_wp2_with (with_reducible refine stop_op (.load 38 (.tmp 9)) rfl ?_)
        refine Stand.go ?_
        refine wpList_load_row rfl 38 (.tmp 9) rfl wr.heap.size rfl 38 e.cells (0, 0) _ (heap_alloc_new _ _) Tryz.underlying38 rfl info38s ?_
        go_wp2_with (with_reducible refine stop_op (.store 38 (.tmp 6) (.tmp 30)) rfl ?_)
        refine Stand.go ?_
        refine wpList_store_row rfl 38 (.tmp 6) (.tmp 30) rfl w.heap.size rfl e.cells rfl 38 EV.zero.cells ((Below.heap_alloc _ _ _ hszr).trans hb1.out) info38s rfl (EV.one e) ?_
        go_wp2_with fail
        have hfin : Fresh w ((wr.alloc (.cells e.cells 38)).setRow w.heap.size e.cells) := fresh_setRow ((fcomp HWF.out hfw.out).alloc (fcomp HWF.out hfw.out).size _) (Nat.le_refl _)
        refine bodyPost_ret (results_cell_tmp rfl _ _ w.heap.size 38 e.cells (0, 0) _ rfl (setRow_heap _ _ EV.zero.cells _ _ _ ((Below.heap_alloc _ _ _ hszr).trans hb1.out)) Tryz.underlying38 rfl info38s) rfl ⟨e, by rw [HR.out]; rfl, by rw [HR.out]; rfl, HJ.out.fresh hfin, hfin⟩
      all_goals
        have HR : Hid (findF kind key (l.drop (k + 1)) = findF kind key l) := by rw [← hh2 rfl]; exact hr.out
        clear hr hh1 hh2 hff
        go_wp2_with (with_reducible refine stop_op (.load 38 (.tmp 14)) rfl ?_)
        refine Stand.go ?_
        refine wpList_load_cells rfl 38 (.tmp 14) rfl bb (off + k * 22) rfl e.cells hx.out _ Tryz.underlying38 rfl info38s ?_
        go_wp2_with (with_reducible refine stop_op (.store 38 (.tmp 9) (.tmp 15)) rfl ?_)
        refine Stand.go ?_
        refine wpList_store_new rfl 38 (.tmp 9) (.tmp 15) rfl _ rfl e.cells rfl info38s rfl (EV.one e) ?_
        go_wp2_with fail
        go_roundw
        case rel => exact ⟨k + 1, by omega, by go_num, hfw.out.alloc hfw.out.size _, HR⟩
        case measure => simp [intOf]; omega
    · have HR : Hid (findF kind key l = none) := by rw [← hr.out, List.drop_of_length_le (by omega)]; rfl
      have hb1 : Hid (wr.heap[w.heap.size]? = some (.cells EV.zero.cells 38 (0, 0))) := (hfw.out.blocks _ hsz).trans Hblk.out
      clear hr
      go_wp2_with (with_reducible refine stop_op (.store 38 (.tmp 6) (.tmp 32)) rfl ?_)
      refine Stand.go ?_
      refine wpList_store_row rfl 38 (.tmp 6) (.tmp 32) rfl w.heap.size rfl EV.zero.cells rfl 38 EV.zero.cells hb1.out info38s rfl (EV.one _) ?_
      go_wp2_with fail
      have hfin : Fresh w (wr.setRow w.heap.size EV.zero.cells) := fresh_setRow (fcomp HWF.out hfw.out) (Nat.le_refl _)
      refine bodyPost_ret (results_cell_tmp rfl _ _ w.heap.size 38 EV.zero.cells (0, 0) _ rfl (setRow_heap _ _ EV.zero.cells _ _ _ hb1.out) Tryz.underlying38 rfl info38s) rfl ⟨EV.zero, by rw [HR.out]; rfl, by rw [HR.out]; rfl, ev_zero _ _, hfin⟩
end Go.Proofs.YtmjclmmiljlahaaGreat

set_option linter.unusedVariables false
set_option linter.unusedSimpArgs false
namespace Go.Proofs.YtmjclmmiljlahaaGreat
open Go.RowKit

abbrev tCreate : ByteArray := ⟨#[109, 46, 114, 111, 111, 109, 46, 99, 114, 101, 97, 116, 101]⟩
abbrev tMember : ByteArray := ⟨#[109, 46, 114, 111, 111, 109, 46, 109, 101, 109, 98, 101, 114]⟩
abbrev tLevels : ByteArray := ⟨#[109, 46, 114, 111, 111, 109, 46, 112, 111, 119, 101, 114, 95, 108, 101, 118, 101, 108, 115]⟩
abbrev tJoins : ByteArray := ⟨#[109, 46, 114, 111, 111, 109, 46, 106, 111, 105, 110, 95, 114, 117, 108, 101, 115]⟩
abbrev sMembership : ByteArray := ⟨#[109, 101, 109, 98, 101, 114, 115, 104, 105, 112]⟩
abbrev sJoinRule : ByteArray := ⟨#[106, 111, 105, 110, 95, 114, 117, 108, 101]⟩
abbrev sLeave : ByteArray := ⟨#[108, 101, 97, 118, 101]⟩
abbrev sInvite : ByteArray := ⟨#[105, 110, 118, 105, 116, 101]⟩
abbrev sJoin : ByteArray := ⟨#[106, 111, 105, 110]⟩
abbrev sBan : ByteArray := ⟨#[98, 97, 110]⟩
abbrev sPublic : ByteArray := ⟨#[112, 117, 98, 108, 105, 99]⟩
abbrev sUsers : ByteArray := ⟨#[117, 115, 101, 114, 115]⟩
abbrev sUsersDefault : ByteArray := ⟨#[117, 115, 101, 114, 115, 95, 100, 101, 102, 97, 117, 108, 116]⟩
abbrev sEvents : ByteArray := ⟨#[101, 118, 101, 110, 116, 115]⟩
abbrev sEventsDefault : ByteArray := ⟨#[101, 118, 101, 110, 116, 115, 95, 100, 101, 102, 97, 117, 108, 116]⟩
abbrev sStateDefault : ByteArray := ⟨#[115, 116, 97, 116, 101, 95, 100, 101, 102, 97, 117, 108, 116]⟩
abbrev sKick : ByteArray := ⟨#[107, 105, 99, 107]⟩
abbrev sRoomVersion : ByteArray := ⟨#[114, 111, 111, 109, 95, 118, 101, 114, 115, 105, 111, 110]⟩
abbrev s11 : ByteArray := ⟨#[49, 49]⟩
abbrev sRedact : ByteArray := ⟨#[114, 101, 100, 97, 99, 116]⟩

def membershipF (user : ByteArray) (l : List Ev) : ByteArray := match findF tMember user l with
  | some e => (wordF e.content sMembership).getD sLeave
  | none => sLeave
def ruleF (l : List Ev) : ByteArray := match findF tJoins ⟨#[]⟩ l with
  | some e => (wordF e.content sJoinRule).getD sInvite
  | none => sInvite

set_option maxRecDepth 10000 in
set_option maxHeartbeats 400000 in
theorem membership_any (v : SV) (l : List Ev) (E : Nat → EV) (user : ByteArray) (col : Col) (w : World) (hv : EvsSl w col v l E) :
    Calls Tryz.prog 126 #[sv v, .string user] w fun r w' => r = .returned (.string (membershipF user l)) ∧ Fresh w w' := by
  have hfi := find_any v l E tMember user col w hv
  have Hfi := Lib.hid hfi
  clear hfi hv
  unfold membershipF
  cases hf : findF tMember user l with
  | none =>
    rw [hf] at Hfi
    go_enter Tryz.func126, Tryz.ntmps126
    go_wp2_with fail
    refine Hfi.out.mono ?_
    rintro r w1 ⟨e, rfl, hd, he, hf1⟩
    have H1 := Lib.hid hf1; have HE := Lib.hid he; have HD := Lib.hid hd; clear hf1 he hd
    go_wp2_with (with_reducible refine stop_op (.store 38 (.tmp 5) (.tmp 13)) rfl ?_)
    refine Stand.go ?_
    refine wpList_store_new rfl 38 (.tmp 5) (.tmp 13) rfl _ rfl e.cells rfl info38s rfl (EV.one e) ?_
    go_wp2_with fail
    go_ret
    exact ⟨rfl, H1.out.alloc H1.out.size _⟩
  | some x =>
    rw [hf] at Hfi
    have hwo := fun (e : EV) (w' : World) (h : JVIs w' col e.d.content e.cl e.cf) => word_any e.d.content e.cl e.cf sMembership col w' h
    have Hwo := Lib.hid hwo
    clear hwo
    cases hw : wordF x.content sMembership
    all_goals
      have HW := Lib.hid hw
      clear hw
      go_enter Tryz.func126, Tryz.ntmps126
      go_wp2_with fail
      refine Hfi.out.mono ?_
      rintro r w1 ⟨e, rfl, hd, he, hf1⟩
      dsimp only [Option.getD_some] at hd
      subst hd
      have H1 := Lib.hid hf1; have HE := Lib.hid he; clear hf1 he
      go_wp2_with (with_reducible refine stop_op (.store 38 (.tmp 5) (.tmp 13)) rfl ?_)
      refine Stand.go ?_
      refine wpList_store_new rfl 38 (.tmp 5) (.tmp 13) rfl _ rfl e.cells rfl info38s rfl (EV.one e) ?_
      have hf2 : Fresh w1 (w1.alloc (.cells e.cells 38)) := (Fresh.rfl' w1).alloc (Nat.le_refl _) _
      have H2 := Lib.hid hf2; clear hf2
      go_wp2_with fail
      refine (Hwo.out e _ (HE.out.content.fresh H2.out)).mono ?_
      rintro r w2 ⟨rfl, hf3⟩
      have H3 := Lib.hid hf3; clear hf3
      rw [HW.out]
      go_wp2_with fail
      go_ret
      exact ⟨by rw [HW.out]; rfl, fcomp (fcomp H1.out H2.out) H3.out⟩

set_option maxRecDepth 10000 in
set_option maxHeartbeats 400000 in
theorem rule_any (v : SV) (l : List Ev) (E : Nat → EV) (col : Col) (w : World) (hv : EvsSl w col v l E) :
    Calls Tryz.prog 153 #[sv v] w fun r w' => r = .returned (.string (ruleF l)) ∧ Fresh w w' := by
  have hfi := find_any v l E tJoins ⟨#[]⟩ col w hv
  have Hfi := Lib.hid hfi
  clear hfi hv
  unfold ruleF
  cases hf : findF tJoins ⟨#[]⟩ l with
  | none =>
    rw [hf] at Hfi
    go_enter Tryz.func153, Tryz.ntmps153
    go_wp2_with fail
    refine Hfi.out.mono ?_
    rintro r w1 ⟨e, rfl, hd, he, hf1⟩
    have H1 := Lib.hid hf1; have HE := Lib.hid he; have HD := Lib.hid hd; clear hf1 he hd
    go_wp2_with (with_reducible refine stop_op (.store 38 (.tmp 3) (.tmp 10)) rfl ?_)
    refine Stand.go ?_
    refine wpList_store_new rfl 38 (.tmp 3) (.tmp 10) rfl _ rfl e.cells rfl info38s rfl (EV.one e) ?_
    go_wp2_with fail
    go_ret
    exact ⟨rfl, H1.out.alloc H1.out.size _⟩
  | some x =>
    rw [hf] at Hfi
    have hwo := fun (e : EV) (w' : World) (h : JVIs w' col e.d.content e.cl e.cf) => word_any e.d.content e.cl e.cf sJoinRule col w' h
    have Hwo := Lib.hid hwo
    clear hwo
    cases hw : wordF x.content sJoinRule
    all_goals
      have HW := Lib.hid hw
      clear hw
      go_enter Tryz.func153, Tryz.ntmps153
      go_wp2_with fail
      refine Hfi.out.mono ?_
      rintro r w1 ⟨e, rfl, hd, he, hf1⟩
      dsimp only [Option.getD_some] at hd
      subst hd
      have H1 := Lib.hid hf1; have HE := Lib.hid he; clear hf1 he
      go_wp2_with (with_reducible refine stop_op (.store 38 (.tmp 3) (.tmp 10)) rfl ?_)
      refine Stand.go ?_
      refine wpList_store_new rfl 38 (.tmp 3) (.tmp 10) rfl _ rfl e.cells rfl info38s rfl (EV.one e) ?_
      have hf2 : Fresh w1 (w1.alloc (.cells e.cells 38)) := (Fresh.rfl' w1).alloc (Nat.le_refl _) _
      have H2 := Lib.hid hf2; clear hf2
      go_wp2_with fail
      refine (Hwo.out e _ (HE.out.content.fresh H2.out)).mono ?_
      rintro r w2 ⟨rfl, hf3⟩
      have H3 := Lib.hid hf3; clear hf3
      rw [HW.out]
      go_wp2_with fail
      go_ret
      exact ⟨by rw [HW.out]; rfl, fcomp (fcomp H1.out H2.out) H3.out⟩

def levelF (user : ByteArray) (l : List Ev) : Int := match findF tLevels ⟨#[]⟩ l with
  | none => match findF tCreate ⟨#[]⟩ l with
    | some c => if c.sender = user then 100 else 0
    | none => 0
  | some p => match numberF ((fieldF p.content sUsers).getD .zero) user with
    | some n => n
    | none => (numberF p.content sUsersDefault).getD 0

set_option maxRecDepth 10000 in
set_option maxHeartbeats 800000 in
theorem level_any (v : SV) (l : List Ev) (E : Nat → EV) (user : ByteArray) (col : Col) (w : World) (hv : EvsSl w col v l E) :
    Calls Tryz.prog 127 #[sv v, .string user] w fun r w' => r = .returned (.int .i64 (levelF user l)) ∧ Fresh w w' := by
  have hfi := find_any v l E tLevels ⟨#[]⟩ col w hv
  have hfc := fun w' (h : Fresh w w') => find_any v l E tCreate ⟨#[]⟩ col w' (hv.fresh h)
  have Hfi := Lib.hid hfi
  have Hfc := Lib.hid hfc
  clear hfi hfc hv
  cases hf : findF tLevels ⟨#[]⟩ l with
  | none =>
    rw [hf] at Hfi
    cases hc : findF tCreate ⟨#[]⟩ l with
    | none =>
      rw [show levelF user l = 0 by unfold levelF; rw [hf, hc]]
      rw [hc] at Hfc
      go_enter Tryz.func127, Tryz.ntmps127
      go_wp2_with fail
      refine Hfi.out.mono ?_
      rintro r w1 ⟨e, rfl, hd, he, hf1⟩
      have H1 := Lib.hid hf1; clear hf1 he hd
      go_wp2_with (with_reducible refine stop_op (.store 38 (.tmp 5) (.tmp 18)) rfl ?_)
      refine Stand.go ?_
      refine wpList_store_new rfl 38 (.tmp 5) (.tmp 18) rfl _ rfl e.cells rfl info38s rfl (EV.one e) ?_
      have hf2 : Fresh w (w1.alloc (.cells e.cells 38)) := H1.out.alloc H1.out.size _
      have H2 := Lib.hid hf2; clear hf2
      go_wp2_with fail
      refine (Hfc.out _ H2.out).mono ?_
      rintro r w2 ⟨e2, rfl, hd, he, hf1⟩
      have H3 := Lib.hid hf1; clear hf1 he hd
      go_wp2_with (with_reducible refine stop_op (.store 38 (.tmp 7) (.tmp 25)) rfl ?_)
      refine Stand.go ?_
      refine wpList_store_new rfl 38 (.tmp 7) (.tmp 25) rfl _ rfl e2.cells rfl info38s rfl (EV.one e2) ?_
      go_wp2_with fail
      go_ret
      exact ⟨rfl, fcomp H2.out (H3.out.alloc H3.out.size _)⟩
    | some c =>
      cases hs : (c.sender.toList == user.toList)
      all_goals
        have hs' : (c.sender.toList == user.toList) = decide (c.sender = user) := beq_toList _ _
        rw [hs] at hs'
        have hval : levelF user l = if c.sender = user then 100 else 0 := by unfold levelF; rw [hf, hc]
      rw [if_neg (by simpa using hs'.symm)] at hval
      rotate_left
      rw [if_pos (by simpa using hs'.symm)] at hval
      all_goals
        rw [hval]
        rw [hc] at Hfc
        clear hs' hval hc hf
        go_enter Tryz.func127, Tryz.ntmps127
        go_wp2_with fail
        refine Hfi.out.mono ?_
        rintro r w1 ⟨e, rfl, hd, he, hf1⟩
        have H1 := Lib.hid hf1; clear hf1 he hd
        go_wp2_with (with_reducible refine stop_op (.store 38 (.tmp 5) (.tmp 18)) rfl ?_)
        refine Stand.go ?_
        refine wpList_store_new rfl 38 (.tmp 5) (.tmp 18) rfl _ rfl e.cells rfl info38s rfl (EV.one e) ?_
        have hf2 : Fresh w (w1.alloc (.cells e.cells 38)) := H1.out.alloc H1.out.size _
        have H2 := Lib.hid hf2; clear hf2
        go_wp2_with fail
        refine (Hfc.out _ H2.out).mono ?_
        rintro r w2 ⟨e2, rfl, hd, he, hf1⟩
        dsimp only [Option.getD_some] at hd
        subst hd
        have H3 := Lib.hid hf1; clear hf1 he
        go_wp2_with (with_reducible refine stop_op (.store 38 (.tmp 7) (.tmp 25)) rfl ?_)
        refine Stand.go ?_
        refine wpList_store_new rfl 38 (.tmp 7) (.tmp 25) rfl _ rfl e2.cells rfl info38s rfl (EV.one e2) ?_
        go_wp2_with fail
        go_ret
        exact ⟨rfl, fcomp H2.out (H3.out.alloc H3.out.size _)⟩
  | some p =>
    rw [hf] at Hfi
    have hfu := fun (e : EV) (w' : World) (h : JVIs w' col e.d.content e.cl e.cf) => field_any e.d.content e.cl e.cf sUsers col w' h
    have Hfu := Lib.hid hfu
    have hnu := fun (u : JV) (a b : SV) (w' : World) (h : JVIs w' col u a b) => number_any u a b user col w' h
    have Hnu := Lib.hid hnu
    have hnd := fun (e : EV) (w' : World) (h : JVIs w' col e.d.content e.cl e.cf) => number_any e.d.content e.cl e.cf sUsersDefault col w' h
    have Hnd := Lib.hid hnd
    clear hfu hnu hnd
    obtain ⟨V, hV⟩ : ∃ V, V = levelF user l := ⟨_, rfl⟩
    have hV2 := hV
    unfold levelF at hV2
    rw [hf] at hV2
    rw [← hV]
    dsimp only [] at hV2
    cases hn : numberF ((fieldF p.content sUsers).getD .zero) user
    all_goals
      rw [hn] at hV2
      dsimp only [] at hV2
      subst hV2
      have HN := Lib.hid hn
      clear hn hV hf
      go_enter Tryz.func127, Tryz.ntmps127
      go_wp2_with fail
      refine Hfi.out.mono ?_
      rintro r w1 ⟨e, rfl, hd, he, hf1⟩
      dsimp only [Option.getD_some] at hd
      subst hd
      have H1 := Lib.hid hf1; have HE := Lib.hid he; clear hf1 he
      go_wp2_with (with_reducible refine stop_op (.store 38 (.tmp 5) (.tmp 18)) rfl ?_)
      refine Stand.go ?_
      refine wpList_store_new rfl 38 (.tmp 5) (.tmp 18) rfl _ rfl e.cells rfl info38s rfl (EV.one e) ?_
      have hf2 : Fresh w1 (w1.alloc (.cells e.cells 38)) := (Fresh.rfl' w1).alloc (Nat.le_refl _) _
      have H2 := Lib.hid hf2; clear hf2
      go_wp2_with fail
      refine (Hfu.out e _ (HE.out.content.fresh H2.out)).mono ?_
      rintro r w2 ⟨ua, ub, rfl, hju, hf3⟩
      have H3 := Lib.hid hf3; have HU := Lib.hid hju; clear hf3 hju
      generalize hgu : (fieldF e.d.content sUsers).getD .zero = u at *
      have hfc : ∀ b o, b < (w1.alloc (.cells e.cells 38)).heap.size → w2.cell? ⟨b, o, none⟩ = (w1.alloc (.cells e.cells 38)).cell? ⟨b, o, none⟩ := H3.out.cells
      have Hgu := Lib.hid hgu; clear hgu
      have hb1 : w2.heap[w1.heap.size]? = some (.cells e.cells 38 (0, 0)) := (H3.out.blocks _ (by simp)).trans (heap_alloc_new _ _)
      have HB1 := Lib.hid hb1
      clear hb1 hfc
      go_wp2_with fail
      have hf4 : Fresh w2 (w2.alloc (.cells #[.int .i64 u.kind, .bool u.b, .int .i64 u.n, .string u.text, .slice ua.a ua.n ua.c, .slice ub.a ub.n ub.c] 36)) := (Fresh.rfl' w2).alloc (Nat.le_refl _) _
      have H4 := Lib.hid hf4; clear hf4
      refine (Hnu.out u ua ub _ (HU.out.fresh H4.out)).mono ?_
      rintro r w3 ⟨rfl, hf5⟩
      have H5 := Lib.hid hf5; clear hf5
      rw [HN.out]
      have hw3 : Fresh w1 w3 := fcomp (fcomp (fcomp H2.out H3.out) H4.out) H5.out
      have H6 := Lib.hid hw3; clear hw3
    · have hb3 : w3.heap[w1.heap.size]? = some (.cells e.cells 38 (0, 0)) := (H5.out.blocks _ (by have := H3.out.size; simp at this ⊢; omega)).trans ((H4.out.blocks _ (by have := H3.out.size; simp at this ⊢; omega)).trans HB1.out)
      have c10 : w3.cell? ⟨w1.heap.size, 10, none⟩ = some (.int .i64 e.d.content.kind) := by simp [World.cell?, hb3]; rfl
      have c11 : w3.cell? ⟨w1.heap.size, 11, none⟩ = some (.bool e.d.content.b) := by simp [World.cell?, hb3]; rfl
      have c12 : w3.cell? ⟨w1.heap.size, 12, none⟩ = some (.int .i64 e.d.content.n) := by simp [World.cell?, hb3]; rfl
      have c13 : w3.cell? ⟨w1.heap.size, 13, none⟩ = some (.string e.d.content.text) := by simp [World.cell?, hb3]; rfl
      have c14 : w3.cell? ⟨w1.heap.size, 14, none⟩ = some (.slice e.cl.a e.cl.n e.cl.c) := by simp [World.cell?, hb3]; rfl
      have c15 : w3.cell? ⟨w1.heap.size, 15, none⟩ = some (.slice e.cf.a e.cf.n e.cf.c) := by simp [World.cell?, hb3]; rfl
      clear hb3
      go_wp2_with fail
      refine (Hnd.out e _ (HE.out.content.fresh H6.out)).mono ?_
      rintro r w4 ⟨rfl, hf7⟩
      have H7 := Lib.hid hf7; clear hf7
      go_wp2_with fail
      go_ret
      exact ⟨rfl, fcomp (fcomp H1.out H6.out) H7.out⟩
    · go_wp2_with fail
      go_ret
      exact ⟨rfl, fcomp H1.out H6.out⟩
end Go.Proofs.YtmjclmmiljlahaaGreat

set_option linter.unusedVariables false
set_option linter.unusedSimpArgs false
namespace Go.Proofs.YtmjclmmiljlahaaGreat
open Go.RowKit

theorem run_equal_str (d : Nat) (w : World) (a b : ByteArray) : (Op.equalIn (d + 1) 9 (.string a) (.string b)).run Tryz.prog w = .ok (decide (a = b)) w := by
  simp [Op.equalIn, run_underlying Tryz.underlying9]
  rw [beq_toListBytes, beq_toList]

theorem run_part_str (w : World) (cs : Array Value) (o : Nat) (s : ByteArray) (h : cs[o]? = some (.string s)) : (part 9 cs o).run Tryz.prog w = .ok (.string s) w := by
  simp [part, isAgg, run_underlying Tryz.underlying9, h]

theorem fields167 : (Tryz.prog.fieldsOf 167).toList.map (fun f => (f.name, f.type, f.offset)) = [("kind", 9, 0), ("key", 9, 1)] := by kernel_rfl
theorem fields124 : (Tryz.prog.fieldsOf 124).toList.map (fun f => (f.name, f.type, f.offset)) = [("kind", 9, 0), ("key", 9, 1)] := by kernel_rfl
theorem fields80 : (Tryz.prog.fieldsOf 80).toList.map (fun f => (f.name, f.type, f.offset)) = [("Type", 9, 0), ("Key", 9, 1), ("ID", 9, 2)] := by kernel_rfl

theorem eqFields_str (d : Nat) (w : World) (xs ys : Array Value) : ∀ (fs : List Field) (l : List (String × TypeId × Nat)) (ps qs : List ByteArray),
    fs.map (fun f => (f.name, f.type, f.offset)) = l → (∀ x ∈ l, x.1 ≠ "_" ∧ x.2.1 = 9) → l.length = ps.length → ps.length = qs.length →
    (∀ (i : Nat) (x : String × TypeId × Nat) (a b : ByteArray), l[i]? = some x → ps[i]? = some a → qs[i]? = some b → xs[x.2.2]? = some (.string a) ∧ ys[x.2.2]? = some (.string b)) →
    (Op.eqFields (d + 1) xs ys fs).run Tryz.prog w = .ok (decide (ps = qs)) w
  | [], l, ps, qs, h, _, h2, h3, _ => by
    subst h
    have : ps = [] := List.eq_nil_of_length_eq_zero (by simpa using h2.symm)
    subst this
    have : qs = [] := List.eq_nil_of_length_eq_zero (by simpa using h3.symm)
    subst this
    simp [Op.eqFields]
  | f :: fs, l, ps, qs, h, hn, h2, h3, hc => by
    subst h
    obtain ⟨a, ps, rfl⟩ : ∃ a ps', ps = a :: ps' := by
      cases ps with
      | nil => simp at h2
      | cons a ps => exact ⟨_, _, rfl⟩
    obtain ⟨b, qs, rfl⟩ : ∃ b qs', qs = b :: qs' := by
      cases qs with
      | nil => simp at h3
      | cons a qs => exact ⟨_, _, rfl⟩
    have h0 := hn (f.name, f.type, f.offset) (by simp)
    have hc0 := hc 0 (f.name, f.type, f.offset) a b (by simp) (by simp) (by simp)
    have ih := eqFields_str d w xs ys fs _ ps qs rfl (fun x hx => hn x (by simp at hx ⊢; exact .inr hx)) (by simpa using h2) (by simpa using h3)
      (fun i x a b e1 e2 e3 => hc (i + 1) x a b (by simpa using e1) (by simpa using e2) (by simpa using e3))
    have hty : f.type = 9 := h0.2
    simp only [Op.eqFields, h0.1, ne_eq, not_false_eq_true, if_true, Sem.run_bind, hty, run_part_str w xs _ a hc0.1, run_part_str w ys _ b hc0.2, run_equal_str, Result.andThen_ok]
    by_cases hab : a = b
    · subst hab
      simp [ih]
    · simp [hab]

theorem eq167 (d : Nat) (w : World) (a b c e : ByteArray) : (Op.equalIn (d + 2) 167 (.agg #[.string a, .string b]) (.agg #[.string c, .string e])).run Tryz.prog w = .ok (decide ([a, b] = [c, e])) w := by
  rw [run_equalIn_struct w (d + 1) 167 _ _ (by kernel_rfl) (by kernel_rfl)]
  refine eqFields_str d w _ _ _ _ [a, b] [c, e] fields167 (by simp) rfl rfl ?_
  intro i x p q h1 h2 h3
  match i with
  | 0 => simp at h1 h2 h3; subst h1 h2 h3; simp
  | 1 => simp at h1 h2 h3; subst h1 h2 h3; simp
theorem eq124 (d : Nat) (w : World) (a b c e : ByteArray) : (Op.equalIn (d + 2) 124 (.agg #[.string a, .string b]) (.agg #[.string c, .string e])).run Tryz.prog w = .ok (decide ([a, b] = [c, e])) w := by
  rw [run_equalIn_struct w (d + 1) 124 _ _ (by kernel_rfl) (by kernel_rfl)]
  refine eqFields_str d w _ _ _ _ [a, b] [c, e] fields124 (by simp) rfl rfl ?_
  intro i x p q h1 h2 h3
  match i with
  | 0 => simp at h1 h2 h3; subst h1 h2 h3; simp
  | 1 => simp at h1 h2 h3; subst h1 h2 h3; simp
theorem eq80 (d : Nat) (w : World) (a b c e f g : ByteArray) : (Op.equalIn (d + 2) 80 (.agg #[.string a, .string b, .string c]) (.agg #[.string e, .string f, .string g])).run Tryz.prog w = .ok (decide ([a, b, c] = [e, f, g])) w := by
  rw [run_equalIn_struct w (d + 1) 80 _ _ (by kernel_rfl) (by kernel_rfl)]
  refine eqFields_str d w _ _ _ _ [a, b, c] [e, f, g] fields80 (by simp) rfl rfl ?_
  intro i x p q h1 h2 h3
  match i with
  | 0 => simp at h1 h2 h3; subst h1 h2 h3; simp
  | 1 => simp at h1 h2 h3; subst h1 h2 h3; simp
  | 2 => simp at h1 h2 h3; subst h1 h2 h3; simp

/-- The keys that are pairs of texts. -/
abbrev pairK (p : ByteArray × ByteArray) : Value := .agg #[.string p.1, .string p.2]
attribute [go_sem] pairK

theorem pairK_inj (a b : ByteArray × ByteArray) (h : pairK a = pairK b) : a = b := by
  obtain ⟨a1, a2⟩ := a; obtain ⟨b1, b2⟩ := b
  simp [pairK] at h
  simp [h]

theorem findAsking_pair (kt : TypeId) (heq : ∀ w a b c e, (Op.equal kt (.agg #[.string a, .string b]) (.agg #[.string c, .string e])).run Tryz.prog w = .ok (decide ([a, b] = [c, e])) w) (w : World) (k : ByteArray × ByteArray) :
    ∀ (es : List MapEntry) (ks : List (ByteArray × ByteArray)) (i : Nat), es.map (·.key) = ks.map pairK →
    (Instr.findAsking kt (pairK k) es i).run Tryz.prog w = .ok ((posOf k ks).bind fun j => (es[j]?).map fun e => (i + j, e.val)) w
  | [], ks, i, h => by
    have : ks = [] := by cases ks <;> simp_all
    subst this; simp [Instr.findAsking, posOf]
  | e :: es, [], i, h => by simp at h
  | e :: es, a :: ks, i, h => by
    simp only [List.map_cons, List.cons.injEq] at h
    have hq : (Op.equal kt (pairK k) e.key).run Tryz.prog w = .ok (decide (a = k)) w := by
      rw [h.1]; unfold pairK
      rw [heq]
      congr 1
      obtain ⟨a1, a2⟩ := a; obtain ⟨k1, k2⟩ := k
      simp [eq_comm]
    simp only [Instr.findAsking, Sem.run_bind, hq, Result.andThen_ok, posOf]
    by_cases hk : a = k
    · simp [hk]
    · simp only [hk, decide_false, Bool.false_eq_true, if_false]
      rw [findAsking_pair kt heq w k es ks (i + 1) h.2]
      cases posOf k ks with
      | none => simp
      | some j => simp [Nat.add_assoc, Nat.add_comm 1 j]

theorem pairKey167 : KeyLaw 167 pairK where
  inj := pairK_inj
  check := fun e w k => by kernel_rfl
  find := fun w k es ks h => by
    cases es with
    | nil =>
      have : ks = [] := by cases ks <;> simp_all
      subst this
      simp [Instr.findKey, run_underlying Tryz.underlying167, Instr.findNow, posOf]
    | cons e es =>
      obtain ⟨a, ks, rfl⟩ : ∃ a ks', ks = a :: ks' := by cases ks <;> simp_all
      have hk : e.key = pairK a := by simp at h; exact h.1
      have hn : ∀ d, Instr.findNow d (pairK k) (e :: es) 0 = none := fun d => by
        unfold Instr.findNow pairK; cases d <;> simp [Instr.sameNow]
      have := findAsking_pair 167 (fun w a b c e => eq167 9998 w a b c e) w k (e :: es) (a :: ks) 0 h
      simp only [Nat.zero_add] at this
      simp only [Instr.findKey, Sem.run_bind, run_underlying Tryz.underlying167, Result.andThen_ok, hn, this]
  same := fun w k => by
    have : Instr.sameBits 10000 (pairK k) (pairK k) = true := by
      simp [Instr.sameBits, pairK, MapKept.bytes_beq]
    simp [Instr.keyThatStays, this]
end Go.Proofs.YtmjclmmiljlahaaGreat

set_option linter.unusedVariables false
set_option linter.unusedSimpArgs false
namespace Go.Proofs.YtmjclmmiljlahaaGreat
open Go.RowKit

theorem setObj'_twice (w : World) (b : Nat) (o o' : Obj) : World.setObj' (World.setObj' w b o) b o' = World.setObj' w b o' := by
  simp [World.setObj']

section
variable {κ : Type} [DecidableEq κ] {kt : TypeId} {K : κ → Value} {w w' : World} {b : Nat} {kvs : List (κ × Value)}

/-- 'm[k] op= v': the entry is found or made, whatever comes between, and stored. -/
theorem run_incr_map (L : KeyLaw kt K) {t et : TypeId} (ht : Tryz.prog.underlying t = some (.map kt et)) {z : Value} (hz : ∀ w, (zeroValue et).run Tryz.prog w = .ok z w)
    (h : MapIs K w b kvs) (k : κ) :
    ∃ (o1 : Obj) (stamp : Int), (Instr.mapEntry t (.map (some b)) (K k)).run Tryz.prog w = .ok (.tuple #[(getKV kvs k).getD z, .int .i64 stamp]) (World.setObj' w b o1) ∧
      (∀ ok, ∃ v2, (Instr.lookup t (.map (some b)) (K k) ok).run Tryz.prog (World.setObj' w b o1) = .ok v2 (World.setObj' w b o1) ∧ (ok = false → v2 = (getKV kvs k).getD z)) ∧
      ∀ v, ∃ o2, (Instr.entryStore t (.map (some b)) (.int .i64 stamp) v).run Tryz.prog (World.setObj' w b o1) = .ok () (World.setObj' w b o2) ∧ MapIs K (World.setObj' w b o2) b (putKV kvs k v) := by
  have hlt := h.lt
  have h0 := h
  obtain ⟨es, clock, hb, he, hn, hs⟩ := h
  have hf := findRun L he k w
  have hkeys := (keys_of he).1
  cases hi : posOf k (kvs.map (·.1)) with
  | none =>
    have hg : getKV kvs k = none := by simp [getKV, hi]
    rw [hi] at hf
    simp only [Option.bind_none] at hf
    have hme : (Instr.mapEntry t (.map (some b)) (K k)).run Tryz.prog w = .ok (.tuple #[z, .int .i64 clock]) (World.setObj' w b (.map (es.push ⟨K k, z, clock⟩) (clock + 1))) := by
      simp [Instr.mapEntry, run_underlying ht, MapKept.run_getObj_map hb, L.check, hf, hz, MapKept.run_setObj_map _ hb, World.setObj', goInt]
    have hnk : k ∉ kvs.map (·.1) := posOf_none.1 hi
    have hst : MapKept.Stamped (es.push ⟨K k, z, clock⟩) (clock + 1) := MapKept.stamped_push hs (by
      intro x hx e
      have : x.key ∈ es.toList.map (·.key) := List.mem_map.2 ⟨x, hx, rfl⟩
      rw [hkeys, e] at this
      obtain ⟨a, ha, e'⟩ := List.mem_map.1 this
      exact hnk (L.inj _ _ e' ▸ ha))
    have hm1 : MapIs K (World.setObj' w b (.map (es.push ⟨K k, z, clock⟩) (clock + 1))) b (kvs ++ [(k, z)]) := by
      refine ⟨_, _, setObj'_at hlt, by simp [he], ?_, hst⟩
      simp only [List.map_append, List.map_cons, List.map_nil]
      refine List.nodup_append.2 ⟨hn, by simp, ?_⟩
      intro a ha c hc e
      simp at hc; subst hc; subst e; exact hnk ha
    have hg1 : getKV (kvs ++ [(k, z)]) k = some z := by
      clear hm1 hst hme hf h0 he hkeys hg hi
      induction kvs with
      | nil => simp [getKV_cons]
      | cons p l ih =>
        simp at hnk
        rw [List.cons_append, getKV_cons, if_neg (by rintro rfl; exact hnk.1 rfl)]
        exact ih (by simp at hn; exact hn.2) (by simpa using hnk.2)
    refine ⟨_, clock, by rw [hg]; exact hme, ?_, ?_⟩
    · intro ok
      have := run_lookup_map L ht hz hm1 k ok
      rw [hg1] at this
      refine ⟨_, this, ?_⟩
      rintro rfl
      simp [hg]
    · intro v
      have hfi : (es.push ⟨K k, z, clock⟩).findIdx? (fun e => (e.born : Int) == (clock : Int)) = some es.size := by
        rw [Array.findIdx?_eq_some_iff_getElem]
        refine ⟨by simp, by simp, ?_⟩
        intro j hj
        have hj' : j < es.size := hj
        rw [Array.getElem_push_lt hj']
        have := hs.1 es[j] (by simp)
        simp; omega
      have hse : (es.push ⟨K k, z, clock⟩).modify es.size (fun e => { e with val := v }) = es.push ⟨K k, v, clock⟩ := by
        apply Array.ext'
        apply List.ext_getElem?; intro j
        simp only [Array.getElem?_toList, Array.getElem?_modify, Array.getElem?_push]
        by_cases h1 : es.size = j
        · subst h1; simp
        · simp [h1]
          have h1' : ¬ j = es.size := fun e => h1 e.symm
          simp [h1']
      refine ⟨.map (es.push ⟨K k, v, clock⟩) (clock + 1), ?_, ?_⟩
      · have hb1 : (World.setObj' w b (.map (es.push ⟨K k, z, clock⟩) (clock + 1))).heap[b]? = some (.map (es.push ⟨K k, z, clock⟩) (clock + 1)) := setObj'_at hlt
        simp [Instr.entryStore, MapKept.run_getObj_map hb1, asInt, asIntOf, hfi, hse, MapKept.run_setObj_map _ hb1]
        exact setObj'_twice w b _ _
      · unfold putKV
        rw [hi]
        refine ⟨_, _, setObj'_at hlt, by simp [he], ?_, MapKept.stamped_push hs ?_⟩
        · simp only [List.map_append, List.map_cons, List.map_nil]
          refine List.nodup_append.2 ⟨hn, by simp, ?_⟩
          intro a ha c hc e
          simp at hc; subst hc; subst e; exact hnk ha
        · intro x hx e
          have : x.key ∈ es.toList.map (·.key) := List.mem_map.2 ⟨x, hx, rfl⟩
          rw [hkeys, e] at this
          obtain ⟨a, ha, e'⟩ := List.mem_map.1 this
          exact hnk (L.inj _ _ e' ▸ ha)
  | some i =>
    obtain ⟨hlt', hki⟩ := posOf_lt hi
    have hi' : i < es.toList.length := by
      have := congrArg List.length he
      simp at this hlt' ⊢; omega
    have hi'' : i < es.size := by simpa using hi'
    have hik : i < kvs.length := by simpa using hlt'
    have hkey : (es.toList[i]).key = K k := by
      have := congrArg (fun l => l[i]?) hkeys
      simp only [List.getElem?_map, List.getElem?_eq_getElem hi', Option.map_some] at this
      rw [List.getElem?_eq_getElem (by simpa using hlt')] at this
      simp only [Option.map_some, Option.some.injEq] at this
      rw [this]
      simp at hki; rw [← hki]
    have hval : (es.toList[i]).val = kvs[i].2 := by
      have := (keys_of he).2 i
      rw [← Array.getElem?_toList, List.getElem?_eq_getElem hi', List.getElem?_eq_getElem hik] at this
      simpa using this
    have hg : getKV kvs k = some kvs[i].2 := by simp [getKV, hi, List.getElem?_eq_getElem hik]
    rw [hi] at hf
    simp only [Option.bind_some, List.getElem?_eq_getElem hi', Option.map_some] at hf
    have he2 : es[i]? = some es.toList[i] := by
      rw [← Array.getElem?_toList, List.getElem?_eq_getElem hi']
    have hsame : es.modify i (fun e => { e with key := K k }) = es := by
      apply Array.ext'
      apply List.ext_getElem?; intro j
      simp only [Array.getElem?_toList, Array.getElem?_modify]
      by_cases hij : i = j
      · subst hij
        rw [he2]; simp only [if_true, Option.map_some, Option.some.injEq]
        rw [← hkey]
      · simp [hij]
    have hw1 : World.setObj' w b (.map es clock) = w := by
      unfold World.setObj'
      have : w.heap.setIfInBounds b (.map es clock) = w.heap := by
        apply Array.ext'
        apply List.ext_getElem?; intro j
        simp only [Array.toList_setIfInBounds, List.getElem?_set, Array.getElem?_toList]
        by_cases hij : b = j
        · subst hij; rw [Array.getElem?_eq_getElem hlt] at hb; simp at hb; simp [hb, hlt]
        · simp [hij]
      rw [this]
    have hme : (Instr.mapEntry t (.map (some b)) (K k)).run Tryz.prog w = .ok (.tuple #[kvs[i].2, .int .i64 ((es.toList[i]).born)]) (World.setObj' w b (.map es clock)) := by
      simp [Instr.mapEntry, run_underlying ht, MapKept.run_getObj_map hb, L.check, hf]
      simp only [he2, Option.map_some, Option.getD_some, hkey]
      simp [L.same, MapKept.run_setObj_map _ hb, World.setObj', goInt, hsame]
      simpa using hval
    refine ⟨_, _, by rw [hg]; exact hme, ?_, ?_⟩
    · intro ok
      rw [hw1]
      have := run_lookup_map L ht hz h0 k ok
      refine ⟨_, this, ?_⟩
      rintro rfl
      simp
    · intro v
      rw [hw1]
      have hfi : es.findIdx? (fun e => (e.born : Int) == ((es.toList[i]).born : Int)) = some i := by
        rw [Array.findIdx?_eq_some_iff_getElem]
        refine ⟨hi'', by simp, ?_⟩
        intro j hj
        have hne : (es.toList[j]'(by simp; omega)).born ≠ (es.toList[i]).born := by
          intro e
          have := (List.pairwise_iff_getElem.1 hs.2.1) j i (by simp; omega) (by simp; omega) hj
          simp at this e
          exact this e
        simp at hne ⊢
        omega
      refine ⟨.map (es.modify i fun e => { e with val := v }) clock, ?_, ?_⟩
      · simp [Instr.entryStore, MapKept.run_getObj_map hb, asInt, asIntOf, MapKept.run_setObj_map _ hb]
        simp at hfi
        simp [hfi, MapKept.run_setObj_map _ hb, World.setObj']
      · unfold putKV
        rw [hi]
        refine ⟨_, _, setObj'_at hlt, ?_, by rw [modify_keys_kv]; exact hn, MapKept.stamped_modify hs i _ (fun _ _ => rfl) (fun _ _ _ => rfl)⟩
        apply List.ext_getElem?; intro j
        have hj := congrArg (fun l => l[j]?) he
        simp only [List.getElem?_map, Array.getElem?_toList, Array.getElem?_modify, List.getElem?_modify] at hj ⊢
        by_cases h : i = j
        · subst h
          simp only [if_true, he2, Option.map_some] at hj ⊢
          cases hk : kvs[i]? with
          | none => simp [hk] at hj
          | some p =>
            simp [hk] at hj ⊢
            exact hj.1
        · simp [h, hj]
end
end Go.Proofs.YtmjclmmiljlahaaGreat

set_option linter.unusedVariables false
set_option linter.unusedSimpArgs false
namespace Go.Proofs.YtmjclmmiljlahaaGreat
open Go.RowKit

/-- An entry of a state. -/
structure En where
  ty : ByteArray
  key : ByteArray
  id : ByteArray
deriving DecidableEq, Inhabited
def enCells (x : En) : List Value := [.string x.ty, .string x.key, .string x.id]

theorem flat_list {α β : Type} [Inhabited α] (l : List α) (f : α → List β) : l.flatMap f = (List.range l.length).flatMap fun i => f (l.getD i default) := by
  induction l with
  | nil => rfl
  | cons a l ih =>
    rw [List.length_cons, List.range_succ_eq_map, List.flatMap_cons, List.flatMap_cons, List.flatMap_map, ih]
    simp

/-- A list of entries, as a slice value reads. -/
def EnSl (w : World) (col : Col) (v : SV) (l : List En) : Prop := Sl w col 3 (sv v) l.length (l.flatMap enCells)
theorem EnSl.fresh {w w' : World} {col : Col} {v : SV} {l : List En} (h : EnSl w col v l) (hf : Fresh w w') : EnSl w' col v l := Sl.fresh h hf

theorem EnSl.rows {w : World} {col : Col} {v : SV} {l : List En} (h : EnSl w col v l) :
    v.n = l.length ∧ l.length ≤ v.c ∧ v.c ≤ 9223372036854775807 ∧ l.length ≤ 4294967296 ∧
      ∀ k (hk : k < l.length), ∃ b off, v.a = some ⟨b, off, none⟩ ∧ b < w.heap.size ∧ col b = 0 ∧ ∀ j, j < 3 → w.cell? ⟨b, off + k * 3 + j, none⟩ = (enCells l[k])[j]? := by
  unfold EnSl at h
  rw [flat_list] at h
  obtain ⟨ao, cap, hv, h1, h2, h3, h4⟩ := h.rows (fun i _ => rfl)
  obtain ⟨a, n, c⟩ := v
  obtain ⟨rfl, rfl, rfl⟩ : a = ao ∧ n = l.length ∧ c = cap := by simpa [sv] using hv
  refine ⟨rfl, h1, h2, h3, fun k hk => ?_⟩
  obtain ⟨b, off, e, hb, hc, hj⟩ := h4 k hk
  refine ⟨b, off, e, hb, hc, fun j hj' => ?_⟩
  rw [hj j hj']
  simp [hk]

theorem fresh_grown {w w' : World} (h : Fresh w w') : w.grownBy w' none := ⟨h.os, h.tape, h.output, h.size, fun k hk _ => h.block k hk⟩
theorem ownsRow_fresh {w w' : World} {base e size n : Nat} {v : Value} {xs : List Value} (h : w.ownsRow base e size v n xs) (hf : Fresh w w') : w'.ownsRow base e size v n xs :=
  h.kept (fresh_grown hf) (by cases hv : v.ownBlock <;> simp)

theorem en_one (l : List En) : ∀ u ∈ l.flatMap enCells, u.oneCell' = true := by
  intro u hu
  obtain ⟨x, _, hx⟩ := List.mem_flatMap.1 hu
  simp [enCells] at hx
  rcases hx with rfl | rfl | rfl <;> rfl

/-- A row of one entry that was just made, as the source of an append. -/
theorem src_new (w : World) (x : En) (b : Nat) (hb : w.heap[b]? = some (.cells #[.string x.ty, .string x.key, .string x.id] 80 (0, 0))) :
    Src Tryz.prog 3 47 (.slice (some ⟨b, 0, none⟩) 1 1) 1 (enCells x) w := by
  refine Src.ofSlice w Tryz.underlying47 _ 1 1 _ rfl (fun j u hu => ?_) (by simp [enCells, Value.oneCell'])
  rw [Addr.add_lit, Nat.zero_add]
  simp only [World.cell?, hb, Option.isSome_none, Bool.false_eq_true, if_false]
  rw [← hu]
  match j with
  | 0 => rfl
  | 1 => rfl
  | 2 => rfl
  | j + 3 => simp [enCells]

theorem beq_lit (s : ByteArray) (l : List UInt8) : (s.toList == l) = decide (s = ⟨l.toArray⟩) := by
  rw [← beq_toList, ByteArray.toList_eq ⟨l.toArray⟩]

/-- How far Select has come. -/
structure SelSt (w : World) (e : EV) (W : World) (v : Value) (l : List En) : Prop where
  fr : Fresh w W
  box : W.heap[w.heap.size]? = some (.cells e.cells 38 (0, 0))
  own : W.ownsRow (w.heap.size + 1) 80 3 v l.length (l.flatMap enCells)
namespace SelSt
variable {w W W' : World} {e : EV} {v : Value} {l : List En}
theorem lt (h : SelSt w e W v l) : w.heap.size < W.heap.size := (Array.getElem?_eq_some_iff.1 h.box).1
theorem c1 (h : SelSt w e W v l) : W.cell? ⟨w.heap.size, 1, none⟩ = some (.string e.d.ty) := by simp only [World.cell?, h.box]; rfl
theorem c3 (h : SelSt w e W v l) : W.cell? ⟨w.heap.size, 3, none⟩ = some (.string e.d.sender) := by simp only [World.cell?, h.box]; rfl
theorem c4 (h : SelSt w e W v l) : W.cell? ⟨w.heap.size, 4, none⟩ = some (.bool e.d.hk) := by simp only [World.cell?, h.box]; rfl
theorem c5 (h : SelSt w e W v l) : W.cell? ⟨w.heap.size, 5, none⟩ = some (.string e.d.key) := by simp only [World.cell?, h.box]; rfl
theorem c10 (h : SelSt w e W v l) : W.cell? ⟨w.heap.size, 10, none⟩ = some (.int .i64 e.d.content.kind) := by simp only [World.cell?, h.box]; rfl
theorem c11 (h : SelSt w e W v l) : W.cell? ⟨w.heap.size, 11, none⟩ = some (.bool e.d.content.b) := by simp only [World.cell?, h.box]; rfl
theorem c12 (h : SelSt w e W v l) : W.cell? ⟨w.heap.size, 12, none⟩ = some (.int .i64 e.d.content.n) := by simp only [World.cell?, h.box]; rfl
theorem c13 (h : SelSt w e W v l) : W.cell? ⟨w.heap.size, 13, none⟩ = some (.string e.d.content.text) := by simp only [World.cell?, h.box]; rfl
theorem c14 (h : SelSt w e W v l) : W.cell? ⟨w.heap.size, 14, none⟩ = some (.slice e.cl.a e.cl.n e.cl.c) := by simp only [World.cell?, h.box]; rfl
theorem c15 (h : SelSt w e W v l) : W.cell? ⟨w.heap.size, 15, none⟩ = some (.slice e.cf.a e.cf.n e.cf.c) := by simp only [World.cell?, h.box]; rfl
theorem fresh (h : SelSt w e W v l) (hf : Fresh W W') : SelSt w e W' v l := ⟨fcomp h.fr hf, (hf.blocks _ h.lt).trans h.box, ownsRow_fresh h.own hf⟩
theorem lit (h : SelSt w e W v []) (cs : Array Value) (n : Nat) (l' : List En) (hl : l'.flatMap enCells = cs.toList) (hm : n ≤ maxLen) (hn : l'.length = n) :
    SelSt w e (W.alloc (.cells cs 80)) (.slice (some ⟨W.heap.size, 0, none⟩) n n) l' := by
  have hs : cs.size = n * 3 := by
    rw [← Array.length_toList, ← hl, ← hn]
    clear hl hn
    induction l' with
    | nil => rfl
    | cons a l' ih => simp [enCells] at ih ⊢; omega
  have h2 := h.fresh ((Fresh.rfl' W).alloc (Nat.le_refl _) (.cells cs 80))
  refine ⟨h2.fr, h2.box, ?_⟩
  subst hn
  rw [hl]
  exact World.ownsRow_lit _ cs _ h.lt hm hs
theorem app (h : SelSt w e W v l) (x : En) {v' : Value} (hown : W'.ownsRow (w.heap.size + 1) 80 3 v' (l.length + 1) (l.flatMap enCells ++ enCells x)) (hg : W.grownBy W' v.ownBlock) :
    SelSt w e W' v' (l ++ [x]) := by
  have hb : ∀ k, v.ownBlock = some k → w.heap.size + 1 ≤ k := fun k hk => (h.own.lt k hk).1
  refine ⟨h.fr.grown hg (Nat.le_of_lt h.lt) (fun k hk => by have := hb k hk; omega), ?_, ?_⟩
  · rw [hg.block _ h.lt (fun e => by have := hb _ e.symm; omega)]; exact h.box
  · simpa using hown
end SelSt

theorem own_slice {w : World} {base e size n : Nat} {v : Value} {cs : List Value} (h : w.ownsRow base e size v n cs) : ∃ a m c, v = .slice a m c := by
  rcases h.2 with ⟨h, _⟩ | ⟨g, cap, cur, h, _⟩ <;> exact ⟨_, _, _, h⟩
def selJoins (e : Ev) : Bool := decide (e.ty = tMember) && (decide ((wordF e.content sMembership).getD ⟨#[]⟩ = sJoin) || decide ((wordF e.content sMembership).getD ⟨#[]⟩ = sInvite))
def selKey (e : Ev) : Bool := decide (e.ty = tMember) && (e.hk && !decide (e.key = e.sender))
def selectF (e : Ev) : List En :=
  if isF e tCreate then [] else
    ([⟨tCreate, ⟨#[]⟩, ⟨#[]⟩⟩, ⟨tLevels, ⟨#[]⟩, ⟨#[]⟩⟩] ++ (if selJoins e then [⟨tJoins, ⟨#[]⟩, ⟨#[]⟩⟩] else []) ++ [⟨tMember, e.sender, ⟨#[]⟩⟩]) ++ (if selKey e then [⟨tMember, e.key, ⟨#[]⟩⟩] else [])

set_option maxRecDepth 10000 in
set_option maxHeartbeats 400000 in
theorem select_any (e : EV) (col : Col) (w : World) (hcol : Std w col) (he : EvIs w col e) :
    Calls Tryz.prog 82 #[evV e] w fun r w' => ∃ v : SV, r = .returned (sv v) ∧ EnSl w' col v (selectF e.d) ∧ Fresh w w' := by
  have hwo := fun (w' : World) (h : Fresh w w') => word_any e.d.content e.cl e.cf sMembership col w' (he.content.fresh h)
  have Hwo := Lib.hid hwo
  clear hwo
  cases hi : isF e.d tCreate
  rotate_left
  · rw [show selectF e.d = [] by unfold selectF; rw [hi]; rfl]
    have HI := Lib.hid hi
    clear hi he
    go_enter Tryz.func82, Tryz.ntmps82
    go_wp2_with (with_reducible refine stop_op (.load 38 (.tmp 1)) rfl ?_)
    refine Stand.go ?_
    refine wpList_load_row rfl 38 (.tmp 1) rfl w.heap.size rfl 38 e.cells (0, 0) _ (heap_alloc_new _ _) Tryz.underlying38 rfl info38s ?_
    have hf0 : Fresh w (w.alloc (.cells e.cells 38)) := (Fresh.rfl' w).alloc (Nat.le_refl _) _
    have H0 := Lib.hid hf0; clear hf0
    go_wp2_with fail
    refine (is_any e tCreate _).mono ?_
    rintro r w1 ⟨rfl, hf1⟩
    have H1 := Lib.hid hf1; clear hf1
    rw [HI.out]
    go_wp2_with fail
    go_ret
    exact ⟨.nil, rfl, ⟨rfl, by simp, .inl ⟨rfl, rfl⟩⟩, fcomp H0.out H1.out⟩
  · have hsel : selectF e.d = ([⟨tCreate, ⟨#[]⟩, ⟨#[]⟩⟩, ⟨tLevels, ⟨#[]⟩, ⟨#[]⟩⟩] ++ (if selJoins e.d then [⟨tJoins, ⟨#[]⟩, ⟨#[]⟩⟩] else []) ++ [⟨tMember, e.d.sender, ⟨#[]⟩⟩]) ++ (if selKey e.d then [⟨tMember, e.d.key, ⟨#[]⟩⟩] else []) := by
      unfold selectF; rw [hi]; rfl
    obtain ⟨V, hV⟩ : ∃ V, V = selectF e.d := ⟨_, rfl⟩
    rw [← hV]
    have HV := Lib.hid (hV.trans hsel)
    have HI := Lib.hid hi
    clear hi he hsel hV
    go_enter Tryz.func82, Tryz.ntmps82
    go_wp2_with (with_reducible refine stop_op (.load 38 (.tmp 1)) rfl ?_)
    refine Stand.go ?_
    refine wpList_load_row rfl 38 (.tmp 1) rfl w.heap.size rfl 38 e.cells (0, 0) _ (heap_alloc_new _ _) Tryz.underlying38 rfl info38s ?_
    have hf0 : Fresh w (w.alloc (.cells e.cells 38)) := (Fresh.rfl' w).alloc (Nat.le_refl _) _
    have H0 := Lib.hid hf0; clear hf0
    go_wp2_with fail
    refine (is_any e tCreate _).mono ?_
    rintro r w1 ⟨rfl, hf1⟩
    have H1 := Lib.hid hf1; 
    rw [HI.out]
    have hst : SelSt w e w1 (.slice none 0 0) [] := ⟨fcomp H0.out hf1, (hf1.blocks _ (by simp)).trans (heap_alloc_new _ _), World.ownsRow_nil _ _ _ _⟩
    have hlt : w.heap.size < w1.heap.size := hst.lt
    have HB1 := Lib.hid hst
    have c10 := hst.c10
    have c11 := hst.c11
    have c12 := hst.c12
    have c13 := hst.c13
    have c14 := hst.c14
    have c15 := hst.c15
    clear hf1 hst
    go_wp2_with fail
    have hst2 : SelSt w e (w1.alloc (.cells #[.string tCreate, .string ⟨#[]⟩, .string ⟨#[]⟩, .string tLevels, .string ⟨#[]⟩, .string ⟨#[]⟩] 80)) (.slice (some ⟨w1.heap.size, 0, none⟩) 2 2) [⟨tCreate, ⟨#[]⟩, ⟨#[]⟩⟩, ⟨tLevels, ⟨#[]⟩, ⟨#[]⟩⟩] :=
      HB1.out.lit _ 2 _ rfl (by decide) rfl
    have H2 := Lib.hid hst2; clear hst2
    refine (Hwo.out _ H2.out.fr).mono ?_
    rintro r w2 ⟨rfl, hf2⟩
    generalize hwd : (wordF e.d.content sMembership).getD ⟨#[]⟩ = wd
    have HWD := Lib.hid hwd; clear hwd
    have H3 := Lib.hid (H2.out.fresh hf2)
    clear hf2 c10 c11 c12 c13 c14 c15 hlt
    have hlt := H3.out.lt
    have c1 := H3.out.c1
    have c3 := H3.out.c3
    have c4 := H3.out.c4
    have c5 := H3.out.c5
    -- what is decided
    have k1 := beq_lit e.d.ty [109, 46, 114, 111, 111, 109, 46, 109, 101, 109, 98, 101, 114]
    have k2 := beq_lit wd [106, 111, 105, 110]
    have k3 := beq_lit wd [105, 110, 118, 105, 116, 101]
    have hj : selJoins e.d = ((e.d.ty.toList == [109, 46, 114, 111, 111, 109, 46, 109, 101, 109, 98, 101, 114]) && ((wd.toList == [106, 111, 105, 110]) || (wd.toList == [105, 110, 118, 105, 116, 101]))) := by
      unfold selJoins; rw [HWD.out, k1, k2, k3]
    have hk : selKey e.d = ((e.d.ty.toList == [109, 46, 114, 111, 111, 109, 46, 109, 101, 109, 98, 101, 114]) && (e.d.hk && !(e.d.key.toList == e.d.sender.toList))) := by
      unfold selKey; rw [beq_toList, k1]
    clear k1 k2 k3
    have Hj := Lib.hid hj
    have Hk := Lib.hid hk
    clear hj hk
    cases h1 : (e.d.ty.toList == [109, 46, 114, 111, 111, 109, 46, 109, 101, 109, 98, 101, 114])
    · rw [h1] at Hj Hk
      go_wp2_with (at_builtin; refine Stand.stop ?_)
      refine Stand.go ?_
      have hq := H3.out.fresh ((Fresh.rfl' w2).alloc (Nat.le_refl _) (.cells #[.string tMember, .string e.d.sender, .string ⟨#[]⟩] 80))
      refine wpList_append_src _ rfl _ _ 47 47 rfl (w.heap.size + 1) 80 _ 3 48 Tryz.underlying47 info80 rfl (by decide) _ _ _ rfl hq.own (.slice (some ⟨w2.heap.size, 0, none⟩) 1 1) 1 (enCells ⟨tMember, e.d.sender, ⟨#[]⟩⟩) rfl (src_new _ ⟨tMember, e.d.sender, ⟨#[]⟩⟩ _ (heap_alloc_new _ _)) (by simp [maxLen]) (by simp) hq.lt ?_
      intro v' w' hown hg _
      have H4 := Lib.hid (hq.app ⟨tMember, e.d.sender, ⟨#[]⟩⟩ hown hg)
      clear hown hg hq
      clear c1 c3 c4 c5 hlt
      have hlt := H4.out.lt
      have c1 := H4.out.c1
      have c3 := H4.out.c3
      have c4 := H4.out.c4
      have c5 := H4.out.c5
      obtain ⟨a', n', cc', rfl⟩ := own_slice H4.out.own
      go_wp2_with fail
      go_ret
      refine ⟨⟨a', n', cc'⟩, rfl, ?_, H4.out.fr⟩
      rw [HV.out, Hj.out, Hk.out]
      exact Sl.ofOwn H4.out.own (by simp) hcol.ok (Nat.le_succ _)
    · cases ha : (wd.toList == [106, 111, 105, 110]) <;> cases hb : (wd.toList == [105, 110, 118, 105, 116, 101])
      all_goals rw [h1, ha, hb] at Hj
      all_goals rw [h1] at Hk
      · have htok : True := trivial
        go_wp2_with (at_builtin; refine Stand.stop ?_)
        refine Stand.go ?_
        have hq := H3.out.fresh ((Fresh.rfl' w2).alloc (Nat.le_refl _) (.cells #[.string tMember, .string e.d.sender, .string ⟨#[]⟩] 80))
        refine wpList_append_src _ rfl _ _ 47 47 rfl (w.heap.size + 1) 80 _ 3 48 Tryz.underlying47 info80 rfl (by decide) _ _ _ rfl hq.own (.slice (some ⟨w2.heap.size, 0, none⟩) 1 1) 1 (enCells ⟨tMember, e.d.sender, ⟨#[]⟩⟩) rfl (src_new _ ⟨tMember, e.d.sender, ⟨#[]⟩⟩ _ (heap_alloc_new _ _)) (by simp [maxLen]) (by simp) hq.lt ?_
        intro v' w' hown hg _
        have H4 := Lib.hid (hq.app ⟨tMember, e.d.sender, ⟨#[]⟩⟩ hown hg)
        clear hown hg hq
        obtain ⟨W4, hW4⟩ : ∃ W4, W4 = w' := ⟨_, rfl⟩
        subst hW4
        clear c1 c3 c4 c5 hlt
        have hlt := H4.out.lt
        have c1 := H4.out.c1
        have c3 := H4.out.c3
        have c4 := H4.out.c4
        have c5 := H4.out.c5
        cases h2 : e.d.hk <;> cases h3 : (e.d.key.toList == e.d.sender.toList)
        all_goals have h4 : (e.d.key.toList != e.d.sender.toList) = !(e.d.key.toList == e.d.sender.toList) := rfl
        all_goals rw [h3] at h4
        all_goals rw [h2, h3] at Hk
        all_goals rw [h2] at c4
        · have htok : True := trivial
          obtain ⟨a', n', cc', rfl⟩ := own_slice H4.out.own
          go_wp2_with fail
          go_ret
          refine ⟨⟨a', n', cc'⟩, rfl, ?_, H4.out.fr⟩
          rw [HV.out, Hj.out, Hk.out]
          exact Sl.ofOwn H4.out.own (by simp) hcol.ok (Nat.le_succ _)
        · have htok : True := trivial
          obtain ⟨a', n', cc', rfl⟩ := own_slice H4.out.own
          go_wp2_with fail
          go_ret
          refine ⟨⟨a', n', cc'⟩, rfl, ?_, H4.out.fr⟩
          rw [HV.out, Hj.out, Hk.out]
          exact Sl.ofOwn H4.out.own (by simp) hcol.ok (Nat.le_succ _)
        · have htok : True := trivial
          go_wp2_with (at_builtin; refine Stand.stop ?_)
          refine Stand.go ?_
          have hq := H4.out.fresh ((Fresh.rfl' W4).alloc (Nat.le_refl _) (.cells #[.string tMember, .string e.d.key, .string ⟨#[]⟩] 80))
          refine wpList_append_src _ rfl _ _ 47 47 rfl (w.heap.size + 1) 80 _ 3 48 Tryz.underlying47 info80 rfl (by decide) _ _ _ rfl hq.own (.slice (some ⟨W4.heap.size, 0, none⟩) 1 1) 1 (enCells ⟨tMember, e.d.key, ⟨#[]⟩⟩) rfl (src_new _ ⟨tMember, e.d.key, ⟨#[]⟩⟩ _ (heap_alloc_new _ _)) (by simp [maxLen]) (by simp) hq.lt ?_
          intro v' w' hown hg _
          have H5 := Lib.hid (hq.app ⟨tMember, e.d.key, ⟨#[]⟩⟩ hown hg)
          clear hown hg hq
          obtain ⟨a', n', cc', rfl⟩ := own_slice H5.out.own
          go_wp2_with fail
          go_ret
          refine ⟨⟨a', n', cc'⟩, rfl, ?_, H5.out.fr⟩
          rw [HV.out, Hj.out, Hk.out]
          exact Sl.ofOwn H5.out.own (by simp) hcol.ok (Nat.le_succ _)
        · have htok : True := trivial
          obtain ⟨a', n', cc', rfl⟩ := own_slice H4.out.own
          go_wp2_with fail
          go_ret
          refine ⟨⟨a', n', cc'⟩, rfl, ?_, H4.out.fr⟩
          rw [HV.out, Hj.out, Hk.out]
          exact Sl.ofOwn H4.out.own (by simp) hcol.ok (Nat.le_succ _)
      · have htok : True := trivial
        go_wp2_with (at_builtin; refine Stand.stop ?_)
        refine Stand.go ?_
        have hq := H3.out.fresh ((Fresh.rfl' w2).alloc (Nat.le_refl _) (.cells #[.string tJoins, .string ⟨#[]⟩, .string ⟨#[]⟩] 80))
        refine wpList_append_src _ rfl _ _ 47 47 rfl (w.heap.size + 1) 80 _ 3 48 Tryz.underlying47 info80 rfl (by decide) _ _ _ rfl hq.own (.slice (some ⟨w2.heap.size, 0, none⟩) 1 1) 1 (enCells ⟨tJoins, ⟨#[]⟩, ⟨#[]⟩⟩) rfl (src_new _ ⟨tJoins, ⟨#[]⟩, ⟨#[]⟩⟩ _ (heap_alloc_new _ _)) (by simp [maxLen]) (by simp) hq.lt ?_
        intro v' w' hown hg _
        have H4a := Lib.hid (hq.app ⟨tJoins, ⟨#[]⟩, ⟨#[]⟩⟩ hown hg)
        clear hown hg hq
        clear c1 c3 c4 c5 hlt
        have hlt := H4a.out.lt
        have c1 := H4a.out.c1
        have c3 := H4a.out.c3
        have c4 := H4a.out.c4
        have c5 := H4a.out.c5
        obtain ⟨W3, hW3⟩ : ∃ W3, W3 = w' := ⟨_, rfl⟩
        subst hW3
        go_wp2_with (at_builtin; refine Stand.stop ?_)
        refine Stand.go ?_
        have hq := H4a.out.fresh ((Fresh.rfl' W3).alloc (Nat.le_refl _) (.cells #[.string tMember, .string e.d.sender, .string ⟨#[]⟩] 80))
        refine wpList_append_src _ rfl _ _ 47 47 rfl (w.heap.size + 1) 80 _ 3 48 Tryz.underlying47 info80 rfl (by decide) _ _ _ rfl hq.own (.slice (some ⟨W3.heap.size, 0, none⟩) 1 1) 1 (enCells ⟨tMember, e.d.sender, ⟨#[]⟩⟩) rfl (src_new _ ⟨tMember, e.d.sender, ⟨#[]⟩⟩ _ (heap_alloc_new _ _)) (by simp [maxLen]) (by simp) hq.lt ?_
        intro v' w' hown hg _
        have H4 := Lib.hid (hq.app ⟨tMember, e.d.sender, ⟨#[]⟩⟩ hown hg)
        clear hown hg hq
        obtain ⟨W4, hW4⟩ : ∃ W4, W4 = w' := ⟨_, rfl⟩
        subst hW4
        clear c1 c3 c4 c5 hlt
        have hlt := H4.out.lt
        have c1 := H4.out.c1
        have c3 := H4.out.c3
        have c4 := H4.out.c4
        have c5 := H4.out.c5
        cases h2 : e.d.hk <;> cases h3 : (e.d.key.toList == e.d.sender.toList)
        all_goals have h4 : (e.d.key.toList != e.d.sender.toList) = !(e.d.key.toList == e.d.sender.toList) := rfl
        all_goals rw [h3] at h4
        all_goals rw [h2, h3] at Hk
        all_goals rw [h2] at c4
        · have htok : True := trivial
          obtain ⟨a', n', cc', rfl⟩ := own_slice H4.out.own
          go_wp2_with fail
          go_ret
          refine ⟨⟨a', n', cc'⟩, rfl, ?_, H4.out.fr⟩
          rw [HV.out, Hj.out, Hk.out]
          exact Sl.ofOwn H4.out.own (by simp) hcol.ok (Nat.le_succ _)
        · have htok : True := trivial
          obtain ⟨a', n', cc', rfl⟩ := own_slice H4.out.own
          go_wp2_with fail
          go_ret
          refine ⟨⟨a', n', cc'⟩, rfl, ?_, H4.out.fr⟩
          rw [HV.out, Hj.out, Hk.out]
          exact Sl.ofOwn H4.out.own (by simp) hcol.ok (Nat.le_succ _)
        · have htok : True := trivial
          go_wp2_with (at_builtin; refine Stand.stop ?_)
          refine Stand.go ?_
          have hq := H4.out.fresh ((Fresh.rfl' W4).alloc (Nat.le_refl _) (.cells #[.string tMember, .string e.d.key, .string ⟨#[]⟩] 80))
          refine wpList_append_src _ rfl _ _ 47 47 rfl (w.heap.size + 1) 80 _ 3 48 Tryz.underlying47 info80 rfl (by decide) _ _ _ rfl hq.own (.slice (some ⟨W4.heap.size, 0, none⟩) 1 1) 1 (enCells ⟨tMember, e.d.key, ⟨#[]⟩⟩) rfl (src_new _ ⟨tMember, e.d.key, ⟨#[]⟩⟩ _ (heap_alloc_new _ _)) (by simp [maxLen]) (by simp) hq.lt ?_
          intro v' w' hown hg _
          have H5 := Lib.hid (hq.app ⟨tMember, e.d.key, ⟨#[]⟩⟩ hown hg)
          clear hown hg hq
          obtain ⟨a', n', cc', rfl⟩ := own_slice H5.out.own
          go_wp2_with fail
          go_ret
          refine ⟨⟨a', n', cc'⟩, rfl, ?_, H5.out.fr⟩
          rw [HV.out, Hj.out, Hk.out]
          exact Sl.ofOwn H5.out.own (by simp) hcol.ok (Nat.le_succ _)
        · have htok : True := trivial
          obtain ⟨a', n', cc', rfl⟩ := own_slice H4.out.own
          go_wp2_with fail
          go_ret
          refine ⟨⟨a', n', cc'⟩, rfl, ?_, H4.out.fr⟩
          rw [HV.out, Hj.out, Hk.out]
          exact Sl.ofOwn H4.out.own (by simp) hcol.ok (Nat.le_succ _)
      · have htok : True := trivial
        go_wp2_with (at_builtin; refine Stand.stop ?_)
        refine Stand.go ?_
        have hq := H3.out.fresh ((Fresh.rfl' w2).alloc (Nat.le_refl _) (.cells #[.string tJoins, .string ⟨#[]⟩, .string ⟨#[]⟩] 80))
        refine wpList_append_src _ rfl _ _ 47 47 rfl (w.heap.size + 1) 80 _ 3 48 Tryz.underlying47 info80 rfl (by decide) _ _ _ rfl hq.own (.slice (some ⟨w2.heap.size, 0, none⟩) 1 1) 1 (enCells ⟨tJoins, ⟨#[]⟩, ⟨#[]⟩⟩) rfl (src_new _ ⟨tJoins, ⟨#[]⟩, ⟨#[]⟩⟩ _ (heap_alloc_new _ _)) (by simp [maxLen]) (by simp) hq.lt ?_
        intro v' w' hown hg _
        have H4a := Lib.hid (hq.app ⟨tJoins, ⟨#[]⟩, ⟨#[]⟩⟩ hown hg)
        clear hown hg hq
        clear c1 c3 c4 c5 hlt
        have hlt := H4a.out.lt
        have c1 := H4a.out.c1
        have c3 := H4a.out.c3
        have c4 := H4a.out.c4
        have c5 := H4a.out.c5
        obtain ⟨W3, hW3⟩ : ∃ W3, W3 = w' := ⟨_, rfl⟩
        subst hW3
        go_wp2_with (at_builtin; refine Stand.stop ?_)
        refine Stand.go ?_
        have hq := H4a.out.fresh ((Fresh.rfl' W3).alloc (Nat.le_refl _) (.cells #[.string tMember, .string e.d.sender, .string ⟨#[]⟩] 80))
        refine wpList_append_src _ rfl _ _ 47 47 rfl (w.heap.size + 1) 80 _ 3 48 Tryz.underlying47 info80 rfl (by decide) _ _ _ rfl hq.own (.slice (some ⟨W3.heap.size, 0, none⟩) 1 1) 1 (enCells ⟨tMember, e.d.sender, ⟨#[]⟩⟩) rfl (src_new _ ⟨tMember, e.d.sender, ⟨#[]⟩⟩ _ (heap_alloc_new _ _)) (by simp [maxLen]) (by simp) hq.lt ?_
        intro v' w' hown hg _
        have H4 := Lib.hid (hq.app ⟨tMember, e.d.sender, ⟨#[]⟩⟩ hown hg)
        clear hown hg hq
        obtain ⟨W4, hW4⟩ : ∃ W4, W4 = w' := ⟨_, rfl⟩
        subst hW4
        clear c1 c3 c4 c5 hlt
        have hlt := H4.out.lt
        have c1 := H4.out.c1
        have c3 := H4.out.c3
        have c4 := H4.out.c4
        have c5 := H4.out.c5
        cases h2 : e.d.hk <;> cases h3 : (e.d.key.toList == e.d.sender.toList)
        all_goals have h4 : (e.d.key.toList != e.d.sender.toList) = !(e.d.key.toList == e.d.sender.toList) := rfl
        all_goals rw [h3] at h4
        all_goals rw [h2, h3] at Hk
        all_goals rw [h2] at c4
        · have htok : True := trivial
          obtain ⟨a', n', cc', rfl⟩ := own_slice H4.out.own
          go_wp2_with fail
          go_ret
          refine ⟨⟨a', n', cc'⟩, rfl, ?_, H4.out.fr⟩
          rw [HV.out, Hj.out, Hk.out]
          exact Sl.ofOwn H4.out.own (by simp) hcol.ok (Nat.le_succ _)
        · have htok : True := trivial
          obtain ⟨a', n', cc', rfl⟩ := own_slice H4.out.own
          go_wp2_with fail
          go_ret
          refine ⟨⟨a', n', cc'⟩, rfl, ?_, H4.out.fr⟩
          rw [HV.out, Hj.out, Hk.out]
          exact Sl.ofOwn H4.out.own (by simp) hcol.ok (Nat.le_succ _)
        · have htok : True := trivial
          go_wp2_with (at_builtin; refine Stand.stop ?_)
          refine Stand.go ?_
          have hq := H4.out.fresh ((Fresh.rfl' W4).alloc (Nat.le_refl _) (.cells #[.string tMember, .string e.d.key, .string ⟨#[]⟩] 80))
          refine wpList_append_src _ rfl _ _ 47 47 rfl (w.heap.size + 1) 80 _ 3 48 Tryz.underlying47 info80 rfl (by decide) _ _ _ rfl hq.own (.slice (some ⟨W4.heap.size, 0, none⟩) 1 1) 1 (enCells ⟨tMember, e.d.key, ⟨#[]⟩⟩) rfl (src_new _ ⟨tMember, e.d.key, ⟨#[]⟩⟩ _ (heap_alloc_new _ _)) (by simp [maxLen]) (by simp) hq.lt ?_
          intro v' w' hown hg _
          have H5 := Lib.hid (hq.app ⟨tMember, e.d.key, ⟨#[]⟩⟩ hown hg)
          clear hown hg hq
          obtain ⟨a', n', cc', rfl⟩ := own_slice H5.out.own
          go_wp2_with fail
          go_ret
          refine ⟨⟨a', n', cc'⟩, rfl, ?_, H5.out.fr⟩
          rw [HV.out, Hj.out, Hk.out]
          exact Sl.ofOwn H5.out.own (by simp) hcol.ok (Nat.le_succ _)
        · have htok : True := trivial
          obtain ⟨a', n', cc', rfl⟩ := own_slice H4.out.own
          go_wp2_with fail
          go_ret
          refine ⟨⟨a', n', cc'⟩, rfl, ?_, H4.out.fr⟩
          rw [HV.out, Hj.out, Hk.out]
          exact Sl.ofOwn H4.out.own (by simp) hcol.ok (Nat.le_succ _)
      · have htok : True := trivial
        go_wp2_with (at_builtin; refine Stand.stop ?_)
        refine Stand.go ?_
        have hq := H3.out.fresh ((Fresh.rfl' w2).alloc (Nat.le_refl _) (.cells #[.string tJoins, .string ⟨#[]⟩, .string ⟨#[]⟩] 80))
        refine wpList_append_src _ rfl _ _ 47 47 rfl (w.heap.size + 1) 80 _ 3 48 Tryz.underlying47 info80 rfl (by decide) _ _ _ rfl hq.own (.slice (some ⟨w2.heap.size, 0, none⟩) 1 1) 1 (enCells ⟨tJoins, ⟨#[]⟩, ⟨#[]⟩⟩) rfl (src_new _ ⟨tJoins, ⟨#[]⟩, ⟨#[]⟩⟩ _ (heap_alloc_new _ _)) (by simp [maxLen]) (by simp) hq.lt ?_
        intro v' w' hown hg _
        have H4a := Lib.hid (hq.app ⟨tJoins, ⟨#[]⟩, ⟨#[]⟩⟩ hown hg)
        clear hown hg hq
        clear c1 c3 c4 c5 hlt
        have hlt := H4a.out.lt
        have c1 := H4a.out.c1
        have c3 := H4a.out.c3
        have c4 := H4a.out.c4
        have c5 := H4a.out.c5
        obtain ⟨W3, hW3⟩ : ∃ W3, W3 = w' := ⟨_, rfl⟩
        subst hW3
        go_wp2_with (at_builtin; refine Stand.stop ?_)
        refine Stand.go ?_
        have hq := H4a.out.fresh ((Fresh.rfl' W3).alloc (Nat.le_refl _) (.cells #[.string tMember, .string e.d.sender, .string ⟨#[]⟩] 80))
        refine wpList_append_src _ rfl _ _ 47 47 rfl (w.heap.size + 1) 80 _ 3 48 Tryz.underlying47 info80 rfl (by decide) _ _ _ rfl hq.own (.slice (some ⟨W3.heap.size, 0, none⟩) 1 1) 1 (enCells ⟨tMember, e.d.sender, ⟨#[]⟩⟩) rfl (src_new _ ⟨tMember, e.d.sender, ⟨#[]⟩⟩ _ (heap_alloc_new _ _)) (by simp [maxLen]) (by simp) hq.lt ?_
        intro v' w' hown hg _
        have H4 := Lib.hid (hq.app ⟨tMember, e.d.sender, ⟨#[]⟩⟩ hown hg)
        clear hown hg hq
        obtain ⟨W4, hW4⟩ : ∃ W4, W4 = w' := ⟨_, rfl⟩
        subst hW4
        clear c1 c3 c4 c5 hlt
        have hlt := H4.out.lt
        have c1 := H4.out.c1
        have c3 := H4.out.c3
        have c4 := H4.out.c4
        have c5 := H4.out.c5
        cases h2 : e.d.hk <;> cases h3 : (e.d.key.toList == e.d.sender.toList)
        all_goals have h4 : (e.d.key.toList != e.d.sender.toList) = !(e.d.key.toList == e.d.sender.toList) := rfl
        all_goals rw [h3] at h4
        all_goals rw [h2, h3] at Hk
        all_goals rw [h2] at c4
        · have htok : True := trivial
          obtain ⟨a', n', cc', rfl⟩ := own_slice H4.out.own
          go_wp2_with fail
          go_ret
          refine ⟨⟨a', n', cc'⟩, rfl, ?_, H4.out.fr⟩
          rw [HV.out, Hj.out, Hk.out]
          exact Sl.ofOwn H4.out.own (by simp) hcol.ok (Nat.le_succ _)
        · have htok : True := trivial
          obtain ⟨a', n', cc', rfl⟩ := own_slice H4.out.own
          go_wp2_with fail
          go_ret
          refine ⟨⟨a', n', cc'⟩, rfl, ?_, H4.out.fr⟩
          rw [HV.out, Hj.out, Hk.out]
          exact Sl.ofOwn H4.out.own (by simp) hcol.ok (Nat.le_succ _)
        · have htok : True := trivial
          go_wp2_with (at_builtin; refine Stand.stop ?_)
          refine Stand.go ?_
          have hq := H4.out.fresh ((Fresh.rfl' W4).alloc (Nat.le_refl _) (.cells #[.string tMember, .string e.d.key, .string ⟨#[]⟩] 80))
          refine wpList_append_src _ rfl _ _ 47 47 rfl (w.heap.size + 1) 80 _ 3 48 Tryz.underlying47 info80 rfl (by decide) _ _ _ rfl hq.own (.slice (some ⟨W4.heap.size, 0, none⟩) 1 1) 1 (enCells ⟨tMember, e.d.key, ⟨#[]⟩⟩) rfl (src_new _ ⟨tMember, e.d.key, ⟨#[]⟩⟩ _ (heap_alloc_new _ _)) (by simp [maxLen]) (by simp) hq.lt ?_
          intro v' w' hown hg _
          have H5 := Lib.hid (hq.app ⟨tMember, e.d.key, ⟨#[]⟩⟩ hown hg)
          clear hown hg hq
          obtain ⟨a', n', cc', rfl⟩ := own_slice H5.out.own
          go_wp2_with fail
          go_ret
          refine ⟨⟨a', n', cc'⟩, rfl, ?_, H5.out.fr⟩
          rw [HV.out, Hj.out, Hk.out]
          exact Sl.ofOwn H5.out.own (by simp) hcol.ok (Nat.le_succ _)
        · have htok : True := trivial
          obtain ⟨a', n', cc', rfl⟩ := own_slice H4.out.own
          go_wp2_with fail
          go_ret
          refine ⟨⟨a', n', cc'⟩, rfl, ?_, H4.out.fr⟩
          rw [HV.out, Hj.out, Hk.out]
          exact Sl.ofOwn H4.out.own (by simp) hcol.ok (Nat.le_succ _)
end Go.Proofs.YtmjclmmiljlahaaGreat

set_option linter.unusedVariables false
set_option linter.unusedSimpArgs false
namespace Go.Proofs.YtmjclmmiljlahaaGreat
open Go.RowKit

theorem eql80 (w : World) (a b c e f g : ByteArray) : (binOp .eql 80 (.agg #[.string a, .string b, .string c]) (.agg #[.string e, .string f, .string g])).run Tryz.prog w = .ok (.bool (decide (En.mk a b c = ⟨e, f, g⟩))) w := by
  simp only [binOp]
  have := eq80 9998 w a b c e f g
  simp [Op.equal, Op.maxDepth, this]

abbrev enV (x : En) : Value := .agg #[.string x.ty, .string x.key, .string x.id]
attribute [go_sem] enV

set_option maxRecDepth 10000 in
set_option maxHeartbeats 400000 in
theorem index_en (v : SV) (l : List En) (x : En) (col : Col) (w : World) (hv : EnSl w col v l) :
    Calls Tryz.prog 152 #[sv v, enV x] w fun e w' => e = .returned (.int .i64 (idxA (fun y => decide (x = y)) l 0)) ∧ Fresh w w' := by
  obtain ⟨hn, hc, hm, hlen, hj⟩ := hv.rows
  obtain ⟨ao, n, cap⟩ := v
  dsimp only [] at hn hc hm hj
  subst hn
  have Hj := Lib.hid hj
  clear hj hv
  dsimp only [sv, enV]
  go_enter Tryz.func152, Tryz.ntmps152
  go_wp2_with fail
  refine hideWorld _ (fun W => W.cell? ⟨w.heap.size, 0, none⟩ = some (.string x.ty) ∧ W.cell? ⟨w.heap.size, 1, none⟩ = some (.string x.key) ∧ W.cell? ⟨w.heap.size, 2, none⟩ = some (.string x.id) ∧ Fresh w W) _ ⟨by go_simp, by go_simp, by go_simp, (Fresh.rfl' w).alloc (Nat.le_refl _) _⟩ ?_
  rintro W ⟨x0, x1, x2, hWF⟩
  have HWF := Lib.hid hWF
  clear hWF
  go_loopw [8] (fun i wr => ∃ k q : Nat, k ≤ l.length ∧ i = .int .i64 k ∧ wr = W.drewN q ∧ Hid (idxA (fun y => decide (x = y)) (l.drop k) k = idxA (fun y => decide (x = y)) l 0)) (fun i _ => l.length - (intOf i).toNat)
  case atStart => exact ⟨0, 0, Nat.zero_le _, rfl, rfl, rfl⟩
  case round =>
    obtain ⟨k, q, hk, rfl, rfl, hr⟩ := hrel
    by_cases hlt : k < l.length
    · obtain ⟨b, off, rfl, hb, _, hcx⟩ := Hj.out k hlt
      have h1 := idxA_hit (p := fun y => decide (x = y)) hlt
      have h2 := idxA_miss (p := fun y => decide (x = y)) hlt
      generalize l[k] = y at hcx h1 h2
      have y0 : W.cell? ⟨b, off + k * 3, none⟩ = some (.string y.ty) := HWF.out.keep (hcx 0 (by omega))
      have y1 : W.cell? ⟨b, off + k * 3 + 1, none⟩ = some (.string y.key) := HWF.out.keep (hcx 1 (by omega))
      have y2 : W.cell? ⟨b, off + k * 3 + 2, none⟩ = some (.string y.id) := HWF.out.keep (hcx 2 (by omega))
      have i1 : (0 : Int) ≤ k := by omega
      have i2 : (k : Int) < l.length := by omega
      have hq : ∀ w, (binOp .eql 80 (.agg #[.string x.ty, .string x.key, .string x.id]) (.agg #[.string y.ty, .string y.key, .string y.id])).run Tryz.prog w = .ok (.bool (decide (x = y))) w := fun w => eql80 w x.ty x.key x.id y.ty y.key y.id
      clear hcx
      cases he : decide (x = y)
      all_goals simp only [he] at hq
      · have hr' := h2 he
        have HR : Hid (idxA (fun y => decide (x = y)) (l.drop (k+1)) (k+1) = idxA (fun y => decide (x = y)) l 0) := by rw [← hr']; exact hr.out
        clear hr hr' h1 h2 he
        go_wp2_with fail
        go_quiet (fail)
        go_wp2_with fail
        go_roundw
        case rel => exact ⟨k + 1, _, by omega, by go_num, rfl, HR⟩
        case measure => simp [intOf]; omega
      · have hr' := h1 he
        have HR : Hid ((k : Int) = idxA (fun y => decide (x = y)) l 0) := by rw [← hr']; exact hr.out
        clear hr hr' h1 h2 he
        go_wp2_with fail
        go_quiet (fail)
        go_wp2_with fail
        go_ret
        exact ⟨ret_int HR.out, fcomp HWF.out (fcomp (drewN_fresh _ _) (drewN_fresh _ _))⟩
    · have HR : Hid (-1 = idxA (fun y => decide (x = y)) l 0) := by rw [← hr.out, idxA_end (by omega)]; rfl
      clear hr
      go_wp2_with fail
      go_ret
      exact ⟨ret_int HR.out, fcomp HWF.out (drewN_fresh _ _)⟩

theorem contains_en (v : SV) (l : List En) (x : En) (col : Col) (w : World) (hv : EnSl w col v l) :
    Calls Tryz.prog 121 #[sv v, enV x] w fun e w' => e = .returned (.bool (l.any (fun y => decide (x = y)))) ∧ Fresh w w' := by
  have hi := fun w' (h : Fresh w w') => index_en v l x col w' (hv.fresh h)
  have Hi := Lib.hid hi
  clear hi hv
  go_enter Tryz.func121, Tryz.ntmps121
  go_wp2_with fail
  have hf0 : Fresh w (w.alloc (.cells #[.string x.ty, .string x.key, .string x.id] 80)) := (Fresh.rfl' w).alloc (Nat.le_refl _) _
  refine (Hi.out _ hf0).mono ?_
  rintro e w' ⟨rfl, hf⟩
  have Hf := Lib.hid hf
  clear hf
  go_wp2_with fail
  go_ret
  exact ⟨ret_bool (idxA_any _ _ _), fcomp hf0 Hf.out⟩
end Go.Proofs.YtmjclmmiljlahaaGreat

set_option linter.unusedVariables false
set_option linter.unusedSimpArgs false
namespace Go.Proofs.YtmjclmmiljlahaaGreat
open Go.RowKit

/-- Two events stand for one pair. -/
def dupF : List (ByteArray × ByteArray) → List Ev → Bool
  | _, [] => false
  | seen, x :: l => if x.hk then (if (posOf (x.ty, x.key) seen).isSome then true else dupF (seen ++ [(x.ty, x.key)]) l) else dupF seen l
def listsF (e : Ev) (l : List Ev) : Int :=
  if dupF [] l then 10
  else if l.any (fun x => !(x.hk && (selectF e).any (fun y => decide (⟨x.ty, x.key, ⟨#[]⟩⟩ = y)))) then 11
  else if l.any (fun x => !decide (x.room = e.room)) then 12
  else if (findF tCreate ⟨#[]⟩ l).isNone then 13 else 0

theorem dupF_cons {seen : List (ByteArray × ByteArray)} {l : List Ev} {k : Nat} (h : k < l.length) :
    dupF seen (l.drop k) = if l[k].hk then (if (posOf (l[k].ty, l[k].key) seen).isSome then true else dupF (seen ++ [(l[k].ty, l[k].key)]) (l.drop (k + 1))) else dupF seen (l.drop (k + 1)) := by
  rw [drop_cons h]; rfl

theorem posOf_app {κ : Type} [DecidableEq κ] (k : κ) : ∀ l : List κ, (posOf k (l ++ [k])).isSome = true
  | [] => by simp [posOf]
  | a :: l => by
    unfold posOf
    by_cases h : a = k
    · simp [h]
    · simp only [List.cons_append, posOf, h, if_false, Option.isSome_map]; exact posOf_app k l

theorem any_step {α : Type} (p : α → Bool) {l : List α} {k : Nat} (h : k < l.length) : (l.drop k).any p = (p l[k] || (l.drop (k + 1)).any p) := by
  rw [drop_cons h, List.any_cons]

def onesKV (seen : List (ByteArray × ByteArray)) : List ((ByteArray × ByteArray) × Value) := seen.map fun p => (p, .int .i64 1)
theorem onesKV_keys (seen : List (ByteArray × ByteArray)) : (onesKV seen).map (·.1) = seen := by
  unfold onesKV; rw [List.map_map]; exact List.map_id' seen
theorem ones_in {seen : List (ByteArray × ByteArray)} {k : ByteArray × ByteArray} (h : (posOf k seen).isSome = true) : getKV (onesKV seen) k = some (.int .i64 1) := by
  unfold getKV
  rw [onesKV_keys]
  cases hp : posOf k seen with
  | none => rw [hp] at h; cases h
  | some i =>
    obtain ⟨hi, _⟩ := posOf_lt hp
    simp [onesKV, hi]
theorem ones_out {seen : List (ByteArray × ByteArray)} {k : ByteArray × ByteArray} (h : (posOf k seen).isSome = false) : getKV (onesKV seen) k = none := by
  unfold getKV
  rw [onesKV_keys, Option.isSome_eq_false_iff.1 h |> Option.isNone_iff_eq_none.1]; rfl
theorem ones_put {seen : List (ByteArray × ByteArray)} {k : ByteArray × ByteArray} (h : (posOf k seen).isSome = false) : putKV (onesKV seen) k (.int .i64 1) = onesKV (seen ++ [k]) := by
  unfold putKV
  rw [onesKV_keys, Option.isSome_eq_false_iff.1 h |> Option.isNone_iff_eq_none.1]
  simp [onesKV]
theorem ones_put2 {seen : List (ByteArray × ByteArray)} {k : ByteArray × ByteArray} (h : (posOf k seen).isSome = true) : getKV (putKV (onesKV seen) k (.int .i64 2)) k = some (.int .i64 2) := by
  unfold putKV
  rw [onesKV_keys]
  cases hp : posOf k seen with
  | none => rw [hp] at h; cases h
  | some i =>
    obtain ⟨hi, _⟩ := posOf_lt hp
    unfold getKV
    dsimp only []
    rw [modify_keys_kv, onesKV_keys, hp]
    simp [onesKV, hi]

theorem zero3 (w : World) : (zeroValue 3).run Tryz.prog w = .ok (.int .i64 0) w := by kernel_rfl
theorem cell_setObj' {w : World} {b : Nat} {o : Obj} {a : Addr} (h : a.block ≠ b) : (World.setObj' w b o).cell? a = w.cell? a :=
  World.cell?_of_block (setObj'_other h)
theorem fresh_setObj' {w0 w : World} {b : Nat} {o : Obj} (h : Fresh w0 w) (hb : w0.heap.size ≤ b) : Fresh w0 (World.setObj' w b o) :=
  h.trans ⟨rfl, rfl, rfl, by simp [World.setObj'], fun k hk => setObj'_other (by omega)⟩

set_option maxRecDepth 10000 in
set_option maxHeartbeats 800000 in
theorem lists_any (e : EV) (v : SV) (l : List Ev) (E : Nat → EV) (col : Col) (w : World) (hcol : Std w col) (he : EvIs w col e) (hv : EvsSl w col v l E) :
    Calls Tryz.prog 79 #[evV e, sv v] w fun r w' => r = .returned (.int .i64 (listsF e.d l)) ∧ Fresh w w' := by
  have hse := fun w' (h : Fresh w w') => select_any e col w' (hcol.fresh h) (he.fresh h)
  have Hse := Lib.hid hse
  have Hv := Lib.hid hv
  obtain ⟨hrows, hdata, heach⟩ := hv
  obtain ⟨ao, cap, hbv, hc, hm, hlen, hj⟩ := hrows.rows (fun i hi => by simp [EV.cells])
  obtain ⟨ba, bn, bc⟩ := v
  obtain ⟨rfl, rfl, rfl⟩ : ba = ao ∧ bn = l.length ∧ bc = cap := by simpa [sv] using hbv
  obtain ⟨V, hV⟩ : ∃ V, V = listsF e.d l := ⟨_, rfl⟩
  rw [← hV]
  have HV := Lib.hid hV
  have Hj := Lib.hid hj
  have Hd := Lib.hid hdata
  have He := Lib.hid heach
  clear hj hrows hdata heach hbv hse he hV
  dsimp only [sv, evV]
  go_enter Tryz.func79, Tryz.ntmps79
  have hmm := @run_makeMap Tryz.prog
  go_wp2_with fail
  refine hideWorld _ (fun W => W.heap[w.heap.size]? = some (.cells e.cells 38 (0, 0)) ∧ MapIs pairK W (w.heap.size + 1) (onesKV []) ∧ Fresh w W) _ ⟨by rw [Below.heap_alloc _ _ _ (by simp)]; exact heap_alloc_new _ _, by have := MapIs.made (w.alloc (.cells e.cells 38)) pairK; simpa [onesKV] using this, ((Fresh.rfl' w).alloc (Nat.le_refl _) _).alloc (by simp) _⟩ ?_
  rintro W ⟨hbox, hmap, hWF⟩
  have HWF := Lib.hid hWF
  have Hbox := Lib.hid hbox
  have Hmap := Lib.hid hmap
  clear hbox hmap hWF
  go_loopw [18] (fun i wr => ∃ (k : Nat) (seen : List (ByteArray × ByteArray)), k ≤ l.length ∧ i = .int .i64 k ∧ Hid (Fresh w wr) ∧ Hid (wr.heap[w.heap.size]? = some (.cells e.cells 38 (0, 0))) ∧ Hid (MapIs pairK wr (w.heap.size + 1) (onesKV seen)) ∧ Hid (dupF seen (l.drop k) = dupF [] l)) (fun i _ => l.length - (intOf i).toNat)
  case atStart => exact ⟨0, [], Nat.zero_le _, rfl, HWF.out, Hbox.out, Hmap.out, rfl⟩
  case round =>
    obtain ⟨k, seen, hk, rfl, hfw, hbx, hmp, hr⟩ := hrel
    have hszm : w.heap.size + 1 < wr.heap.size := hmp.out.lt
    by_cases hlt : k < l.length
    · obtain ⟨bb, off, rfl, hbb, _, hcells⟩ := Hj.out k hlt
      have hdd := Hd.out k hlt
      have hh := dupF_cons (seen := seen) hlt
      rw [← hdd] at hh
      generalize E k = x at hcells hdd hh
      have hx : Hid (∀ j, j < x.cells.size → wr.cell? ⟨bb, off + k * 22 + j, none⟩ = x.cells[j]?) := fun j hj => by
        have := hcells j hj
        rw [Array.getElem?_toList] at this
        rw [Array.getElem?_eq_getElem hj] at this ⊢
        exact hfw.out.keep this
      clear hcells hdd
      have hmp2 := (hmp.out.block (w' := wr.alloc (.cells x.cells 38)) (Below.heap_alloc _ _ _ hszm))
      have hbx2 : (wr.alloc (.cells x.cells 38)).heap[w.heap.size]? = some (.cells e.cells 38 (0, 0)) := (Below.heap_alloc _ _ _ (by omega)).trans hbx.out
      have Hmp2 := Lib.hid hmp2; have Hbx2 := Lib.hid hbx2
      clear hmp2 hbx2
      cases hhk : x.d.hk
      · rw [hhk] at hh
        have HR : Hid (dupF seen (l.drop (k + 1)) = dupF [] l) := by rw [← hr.out, hh]; rfl
        clear hr hh
        go_wp2_with (with_reducible refine stop_op (.load 38 (.tmp 20)) rfl ?_)
        refine Stand.go ?_
        refine wpList_load_cells rfl 38 (.tmp 20) rfl bb (off + k * 22) rfl x.cells hx.out _ Tryz.underlying38 rfl info38s ?_
        go_wp2_with (with_reducible refine stop_op (.store 38 (.tmp 7) (.tmp 21)) rfl ?_)
        refine Stand.go ?_
        refine wpList_store_new rfl 38 (.tmp 7) (.tmp 21) rfl _ rfl x.cells rfl info38s rfl (EV.one x) ?_
        go_wp2_with fail
        go_roundw
        case rel => exact ⟨k + 1, seen, by omega, by go_num, hfw.out.alloc hfw.out.size _, Hbx2.out, Hmp2.out, HR⟩
        case measure => simp [intOf]; omega
      · rw [hhk] at hh
        simp only [if_true] at hh
        go_wp2_with (with_reducible refine stop_op (.load 38 (.tmp 20)) rfl ?_)
        refine Stand.go ?_
        refine wpList_load_cells rfl 38 (.tmp 20) rfl bb (off + k * 22) rfl x.cells hx.out _ Tryz.underlying38 rfl info38s ?_
        go_wp2_with (with_reducible refine stop_op (.store 38 (.tmp 7) (.tmp 21)) rfl ?_)
        refine Stand.go ?_
        refine wpList_store_new rfl 38 (.tmp 7) (.tmp 21) rfl _ rfl x.cells rfl info38s rfl (EV.one x) ?_
        go_wp2_with fail
        refine hideWorld _ (fun W => W.heap[w.heap.size]? = some (.cells e.cells 38 (0, 0)) ∧ MapIs pairK W (w.heap.size + 1) (onesKV seen) ∧ Fresh w W ∧ W.cell? ⟨wr.heap.size, 1, none⟩ = some (.string x.d.ty) ∧ W.cell? ⟨wr.heap.size, 5, none⟩ = some (.string x.d.key)) _ ⟨Hbx2.out, Hmp2.out, hfw.out.alloc hfw.out.size _, by go_simp, by go_simp⟩ ?_
        rintro W1 ⟨hbx3, hmp3, hf3, c1, c5⟩
        obtain ⟨o1, stamp, hme, hl1, hes⟩ := run_incr_map (w := W1.drew) pairKey167 Tryz.underlying165 zero3 hmp3 (x.d.ty, x.d.key)
        have hl0 := run_lookup_map (w := W1.drew) pairKey167 Tryz.underlying165 zero3 hmp3 (x.d.ty, x.d.key) false
        obtain ⟨v2, hl1, hv2⟩ := hl1 false
        have hv2 := hv2 rfl
        subst hv2
        have hne : wr.heap.size ≠ w.heap.size + 1 := by omega
        have c1' : (World.setObj' W1.drew (w.heap.size + 1) o1).cell? ⟨wr.heap.size, 1, none⟩ = some (.string x.d.ty) := (cell_setObj' hne).trans c1
        have c5' : (World.setObj' W1.drew (w.heap.size + 1) o1).cell? ⟨wr.heap.size, 5, none⟩ = some (.string x.d.key) := (cell_setObj' hne).trans c5
        have Hbx3 := Lib.hid hbx3; have Hf3 := Lib.hid hf3
        clear hbx3 hf3 hmp3
        cases hp : (posOf (x.d.ty, x.d.key) seen).isSome
        · rw [ones_out hp] at hme hl0 hl1
          obtain ⟨o2, hes, hm2⟩ := hes (.int .i64 1)
          rw [ones_put hp] at hm2
          rw [hp] at hh
          have HR : Hid (dupF (seen ++ [(x.d.ty, x.d.key)]) (l.drop (k + 1)) = dupF [] l) := by rw [← hr.out, hh]; rfl
          have Hm2 := Lib.hid hm2
          clear hr hh hm2 hp
          dsimp only [Option.getD_none, pairK] at hme hl0 hl1
          simp only [Bool.false_eq_true, if_false] at hl0
          go_region
          refine hideWorld _ (fun W => W.heap[w.heap.size]? = some (.cells e.cells 38 (0, 0)) ∧ MapIs pairK W (w.heap.size + 1) (onesKV (seen ++ [(x.d.ty, x.d.key)])) ∧ Fresh w W ∧ W.cell? ⟨wr.heap.size, 1, none⟩ = some (.string x.d.ty) ∧ W.cell? ⟨wr.heap.size, 5, none⟩ = some (.string x.d.key)) _
            ⟨(setObj'_other (by omega)).trans Hbx3.out, Hm2.out, fresh_setObj' (Hf3.out.drew) (Nat.le_succ _), (cell_setObj' hne).trans c1, (cell_setObj' hne).trans c5⟩ ?_
          rintro W2 ⟨hbx4, hmp4, hf4, d1, d5⟩
          have hl3 := run_lookup_map pairKey167 Tryz.underlying165 zero3 hmp4 (x.d.ty, x.d.key) false
          rw [ones_in (posOf_app _ _)] at hl3
          dsimp only [Option.getD_some, pairK] at hl3
          simp only [Bool.false_eq_true, if_false] at hl3
          have Hbx4 := Lib.hid hbx4; have Hf4 := Lib.hid hf4; have Hmp4 := Lib.hid hmp4
          clear hbx4 hf4 hmp4 hme hl0 hl1 hes c1' c5' c1 c5
          go_wp2_with fail
          go_roundw
          case rel => exact ⟨k + 1, _, by omega, by go_num, Hf4.out, Hbx4.out, Hmp4.out, HR⟩
          case measure => simp [intOf]; omega
        · rw [ones_in hp] at hme hl0 hl1
          obtain ⟨o2, hes, hm2⟩ := hes (.int .i64 2)
          rw [hp] at hh
          have HR : Hid (dupF [] l = true) := by rw [← hr.out, hh]; rfl
          have hg2 := ones_put2 hp
          have Hm2 := Lib.hid hm2
          have Hg2 := Lib.hid hg2
          clear hr hh hm2 hp hg2
          dsimp only [Option.getD_some, pairK] at hme hl0 hl1
          simp only [Bool.false_eq_true, if_false] at hl0
          go_region
          refine hideWorld _ (fun W => MapIs pairK W (w.heap.size + 1) (putKV (onesKV seen) (x.d.ty, x.d.key) (.int .i64 2)) ∧ Fresh w W ∧ W.cell? ⟨wr.heap.size, 1, none⟩ = some (.string x.d.ty) ∧ W.cell? ⟨wr.heap.size, 5, none⟩ = some (.string x.d.key)) _
            ⟨Hm2.out, fresh_setObj' (Hf3.out.drew) (Nat.le_succ _), (cell_setObj' hne).trans c1, (cell_setObj' hne).trans c5⟩ ?_
          rintro W2 ⟨hmp4, hf4, d1, d5⟩
          have hl3 := run_lookup_map pairKey167 Tryz.underlying165 zero3 hmp4 (x.d.ty, x.d.key) false
          rw [Hg2.out] at hl3
          dsimp only [Option.getD_some, pairK] at hl3
          simp only [Bool.false_eq_true, if_false] at hl3
          have Hf4 := Lib.hid hf4
          clear hf4 hmp4 hme hl0 hl1 hes c1' c5' c1 c5
          go_wp2_with fail
          go_ret
          exact ⟨ret_int (by rw [HV.out]; unfold listsF; rw [HR.out, if_pos rfl]), Hf4.out⟩
    · have HR : Hid (dupF [] l = false) := by rw [← hr.out, List.drop_of_length_le (by omega)]; rfl
      clear hr
      go_wp2_with (with_reducible refine stop_op (.load 38 (.tmp 2)) rfl ?_)
      refine Stand.go ?_
      refine wpList_load_row rfl 38 (.tmp 2) rfl w.heap.size rfl 38 e.cells (0, 0) _ hbx.out Tryz.underlying38 rfl info38s ?_
      have HD := Lib.hid HR.out
      clear HR
      go_wp2_with fail
      refine (Hse.out _ hfw.out).mono ?_
      rintro r W2 ⟨may, rfl, hmay, hf2⟩
      have HFW := Lib.hid (fcomp hfw.out hf2)
      have HMay := Lib.hid hmay
      have HB2 : Hid (W2.heap[w.heap.size]? = some (.cells e.cells 38 (0, 0))) := (hf2.blocks _ (by omega)).trans hbx.out
      clear hf2 hmay hmp hfw hbx hszm hlt hk
      have hmm := @run_makeMap Tryz.prog
      go_wp2_with fail
      go_loopw [47] (fun i wr => ∃ (k : Nat), k ≤ l.length ∧ i = .int .i64 k ∧ Hid (Fresh W2 wr) ∧ Hid ((l.drop k).any (fun x => !(x.hk && (selectF e.d).any (fun y => decide (⟨x.ty, x.key, ⟨#[]⟩⟩ = y)))) = l.any (fun x => !(x.hk && (selectF e.d).any (fun y => decide (⟨x.ty, x.key, ⟨#[]⟩⟩ = y)))))) (fun i _ => l.length - (intOf i).toNat)
      case atStart => exact ⟨0, Nat.zero_le _, rfl, Fresh.rfl' _, rfl⟩
      case round =>
        obtain ⟨k, hk, rfl, hfw, hr⟩ := hrel
        by_cases hlt : k < l.length
        · obtain ⟨bb, off, rfl, hbb, _, hcells⟩ := Hj.out k hlt
          have hdd := Hd.out k hlt
          have hh := any_step (fun x : Ev => !(x.hk && (selectF e.d).any (fun y => decide (⟨x.ty, x.key, ⟨#[]⟩⟩ = y)))) hlt
          rw [← hdd] at hh
          generalize E k = x at hcells hdd hh
          have hx : Hid (∀ j, j < x.cells.size → wr.cell? ⟨bb, off + k * 22 + j, none⟩ = x.cells[j]?) := fun j hj => by
            have := hcells j hj
            rw [Array.getElem?_toList] at this
            rw [Array.getElem?_eq_getElem hj] at this ⊢
            exact (fcomp HFW.out hfw.out).keep this
          clear hcells hdd
          have hco := fun w' (h : Fresh W2 w') => contains_en may (selectF e.d) ⟨x.d.ty, x.d.key, ⟨#[]⟩⟩ col w' (HMay.out.fresh h)
          have Hco := Lib.hid hco
          have H2 := Lib.hid (hfw.out.alloc hfw.out.size (.cells x.cells 38))
          clear hco
          cases hhk : x.d.hk
          · rw [hhk] at hh
            have HR : Hid (l.any (fun x => !(x.hk && (selectF e.d).any (fun y => decide (⟨x.ty, x.key, ⟨#[]⟩⟩ = y)))) = true) := by rw [← hr.out, hh]; rfl
            clear hr hh
            go_wp2_with (with_reducible refine stop_op (.load 38 (.tmp 49)) rfl ?_)
            refine Stand.go ?_
            refine wpList_load_cells rfl 38 (.tmp 49) rfl bb (off + k * 22) rfl x.cells hx.out _ Tryz.underlying38 rfl info38s ?_
            go_wp2_with (with_reducible refine stop_op (.store 38 (.tmp 10) (.tmp 50)) rfl ?_)
            refine Stand.go ?_
            refine wpList_store_new rfl 38 (.tmp 10) (.tmp 50) rfl _ rfl x.cells rfl info38s rfl (EV.one x) ?_
            go_wp2_with fail
            go_ret
            exact ⟨ret_int (by rw [HV.out]; unfold listsF; rw [HD.out, HR.out]; rfl), fcomp HFW.out H2.out⟩
          · rw [hhk] at hh
            cases ha : (selectF e.d).any (fun y => decide (⟨x.d.ty, x.d.key, ⟨#[]⟩⟩ = y))
            · rw [ha] at hh
              have HR : Hid (l.any (fun x => !(x.hk && (selectF e.d).any (fun y => decide (⟨x.ty, x.key, ⟨#[]⟩⟩ = y)))) = true) := by rw [← hr.out, hh]; rfl
              have HA := Lib.hid ha
              clear hr hh ha
              go_wp2_with (with_reducible refine stop_op (.load 38 (.tmp 49)) rfl ?_)
              refine Stand.go ?_
              refine wpList_load_cells rfl 38 (.tmp 49) rfl bb (off + k * 22) rfl x.cells hx.out _ Tryz.underlying38 rfl info38s ?_
              go_wp2_with (with_reducible refine stop_op (.store 38 (.tmp 10) (.tmp 50)) rfl ?_)
              refine Stand.go ?_
              refine wpList_store_new rfl 38 (.tmp 10) (.tmp 50) rfl _ rfl x.cells rfl info38s rfl (EV.one x) ?_
              go_wp2_with fail
              refine (Hco.out _ H2.out).mono ?_
              rintro r W3 ⟨rfl, hf3⟩
              rw [HA.out]
              have H3 := Lib.hid hf3; clear hf3
              go_wp2_with fail
              go_ret
              exact ⟨ret_int (by rw [HV.out]; unfold listsF; rw [HD.out, HR.out]; rfl), fcomp HFW.out (fcomp H2.out H3.out)⟩
            · rw [ha] at hh
              have HR : Hid ((l.drop (k + 1)).any (fun x => !(x.hk && (selectF e.d).any (fun y => decide (⟨x.ty, x.key, ⟨#[]⟩⟩ = y)))) = l.any (fun x => !(x.hk && (selectF e.d).any (fun y => decide (⟨x.ty, x.key, ⟨#[]⟩⟩ = y))))) := by rw [← hr.out, hh]; rfl
              have HA := Lib.hid ha
              clear hr hh ha
              go_wp2_with (with_reducible refine stop_op (.load 38 (.tmp 49)) rfl ?_)
              refine Stand.go ?_
              refine wpList_load_cells rfl 38 (.tmp 49) rfl bb (off + k * 22) rfl x.cells hx.out _ Tryz.underlying38 rfl info38s ?_
              go_wp2_with (with_reducible refine stop_op (.store 38 (.tmp 10) (.tmp 50)) rfl ?_)
              refine Stand.go ?_
              refine wpList_store_new rfl 38 (.tmp 10) (.tmp 50) rfl _ rfl x.cells rfl info38s rfl (EV.one x) ?_
              go_wp2_with fail
              refine (Hco.out _ H2.out).mono ?_
              rintro r W3 ⟨rfl, hf3⟩
              rw [HA.out]
              have H3 := Lib.hid hf3; clear hf3
              go_wp2_with fail
              go_roundw
              case rel => exact ⟨k + 1, by omega, by go_num, fcomp H2.out H3.out, HR⟩
              case measure => simp [intOf]; omega
        · have HA : Hid (l.any (fun x => !(x.hk && (selectF e.d).any (fun y => decide (⟨x.ty, x.key, ⟨#[]⟩⟩ = y)))) = false) := by rw [← hr.out, List.drop_of_length_le (by omega)]; rfl
          have HF3 := Lib.hid (fcomp HFW.out hfw.out)
          have HB3 : Hid (wr.heap[w.heap.size]? = some (.cells e.cells 38 (0, 0))) := (hfw.out.blocks _ (Array.getElem?_eq_some_iff.1 HB2.out).1).trans HB2.out
          clear hr hfw HB2 HFW HMay
          obtain ⟨W3, hW3⟩ : ∃ W3, W3 = wr := ⟨_, rfl⟩
          subst hW3
          go_wp2_with fail
          go_loopw [67] (fun i wr => ∃ (k : Nat), k ≤ l.length ∧ i = .int .i64 k ∧ Hid (Fresh W3 wr) ∧ Hid ((l.drop k).any (fun x => !decide (x.room = e.d.room)) = l.any (fun x => !decide (x.room = e.d.room)))) (fun i _ => l.length - (intOf i).toNat)
          case atStart => exact ⟨0, Nat.zero_le _, rfl, Fresh.rfl' _, rfl⟩
          case round =>
            obtain ⟨k, hk, rfl, hfw, hr⟩ := hrel
            have hb3 : wr.heap[w.heap.size]? = some (.cells e.cells 38 (0, 0)) := (hfw.out.blocks _ (Array.getElem?_eq_some_iff.1 HB3.out).1).trans HB3.out
            have hltb : w.heap.size < wr.heap.size := (Array.getElem?_eq_some_iff.1 hb3).1
            have cr : wr.cell? ⟨w.heap.size, 2, none⟩ = some (.string e.d.room) := by simp only [World.cell?, hb3]; rfl
            clear hb3
            by_cases hlt : k < l.length
            · obtain ⟨bb, off, rfl, hbb, _, hcells⟩ := Hj.out k hlt
              have hdd := Hd.out k hlt
              have hh := any_step (fun x : Ev => !decide (x.room = e.d.room)) hlt
              rw [← hdd] at hh
              generalize E k = x at hcells hdd hh
              have hx : Hid (∀ j, j < x.cells.size → wr.cell? ⟨bb, off + k * 22 + j, none⟩ = x.cells[j]?) := fun j hj => by
                have := hcells j hj
                rw [Array.getElem?_toList] at this
                rw [Array.getElem?_eq_getElem hj] at this ⊢
                exact (fcomp HF3.out hfw.out).keep this
              clear hcells hdd
              have H2 := Lib.hid (hfw.out.alloc hfw.out.size (.cells x.cells 38))
              try dsimp only [] at hh
              rw [← beq_toList] at hh
              cases hq : (x.d.room.toList == e.d.room.toList)
              all_goals
                rw [hq] at hh
                have hq2 : (x.d.room.toList != e.d.room.toList) = !(x.d.room.toList == e.d.room.toList) := rfl
                rw [hq] at hq2
              · have HR : Hid (l.any (fun x => !decide (x.room = e.d.room)) = true) := by rw [← hr.out, hh]; rfl
                clear hr hh
                go_wp2_with (with_reducible refine stop_op (.load 38 (.tmp 69)) rfl ?_)
                refine Stand.go ?_
                refine wpList_load_cells rfl 38 (.tmp 69) rfl bb (off + k * 22) rfl x.cells hx.out _ Tryz.underlying38 rfl info38s ?_
                go_wp2_with (with_reducible refine stop_op (.store 38 (.tmp 12) (.tmp 70)) rfl ?_)
                refine Stand.go ?_
                refine wpList_store_new rfl 38 (.tmp 12) (.tmp 70) rfl _ rfl x.cells rfl info38s rfl (EV.one x) ?_
                go_wp2_with fail
                go_ret
                exact ⟨ret_int (by rw [HV.out]; unfold listsF; rw [HD.out, HA.out, HR.out]; rfl), fcomp HF3.out H2.out⟩
              · have HR : Hid ((l.drop (k + 1)).any (fun x => !decide (x.room = e.d.room)) = l.any (fun x => !decide (x.room = e.d.room))) := by rw [← hr.out, hh]; rfl
                clear hr hh
                go_wp2_with (with_reducible refine stop_op (.load 38 (.tmp 69)) rfl ?_)
                refine Stand.go ?_
                refine wpList_load_cells rfl 38 (.tmp 69) rfl bb (off + k * 22) rfl x.cells hx.out _ Tryz.underlying38 rfl info38s ?_
                go_wp2_with (with_reducible refine stop_op (.store 38 (.tmp 12) (.tmp 70)) rfl ?_)
                refine Stand.go ?_
                refine wpList_store_new rfl 38 (.tmp 12) (.tmp 70) rfl _ rfl x.cells rfl info38s rfl (EV.one x) ?_
                go_wp2_with fail
                go_roundw
                case rel => exact ⟨k + 1, by omega, by go_num, H2.out, HR⟩
                case measure => simp [intOf]; omega
            · have HR : Hid (l.any (fun x => !decide (x.room = e.d.room)) = false) := by rw [← hr.out, List.drop_of_length_le (by omega)]; rfl
              have HF4 := Lib.hid (fcomp HF3.out hfw.out)
              clear hr hfw
              cases hfi : findF tCreate ⟨#[]⟩ l
              all_goals
                have HFI := Lib.hid hfi
                clear hfi
                go_wp2_with fail
                refine (find_any _ l E tCreate ⟨#[]⟩ col _ (Hv.out.fresh HF4.out)).mono ?_
                rintro r W5 ⟨x, rfl, _, _, hf5⟩
                rw [HFI.out]
                have H5 := Lib.hid hf5; clear hf5
                go_wp2_with (with_reducible refine stop_op (.store 38 (.tmp 13) (.tmp 80)) rfl ?_)
                refine Stand.go ?_
                refine wpList_store_new rfl 38 (.tmp 13) (.tmp 80) rfl _ rfl x.cells rfl info38s rfl (EV.one x) ?_
                go_wp2_with fail
                go_ret
                exact ⟨ret_int (by rw [HV.out]; unfold listsF; rw [HD.out, HA.out, HR.out, HFI.out]; rfl), (fcomp HF4.out H5.out).alloc (fcomp HF4.out H5.out).size _⟩
end Go.Proofs.YtmjclmmiljlahaaGreat

set_option linter.unusedVariables false
set_option linter.unusedSimpArgs false
namespace Go.Proofs.YtmjclmmiljlahaaGreat
open Go.RowKit

/-- The event is boxed in the first new block. -/
structure BoxSt (w : World) (e : EV) (W : World) : Prop where
  fr : Fresh w W
  box : W.heap[w.heap.size]? = some (.cells e.cells 38 (0, 0))
namespace BoxSt
variable {w W W' : World} {e : EV}
theorem lt (h : BoxSt w e W) : w.heap.size < W.heap.size := (Array.getElem?_eq_some_iff.1 h.box).1
theorem c0 (h : BoxSt w e W) : W.cell? ⟨w.heap.size, 0, none⟩ = some (.string e.d.id) := by simp only [World.cell?, h.box]; rfl
theorem c1 (h : BoxSt w e W) : W.cell? ⟨w.heap.size, 1, none⟩ = some (.string e.d.ty) := by simp only [World.cell?, h.box]; rfl
theorem c2 (h : BoxSt w e W) : W.cell? ⟨w.heap.size, 2, none⟩ = some (.string e.d.room) := by simp only [World.cell?, h.box]; rfl
theorem c3 (h : BoxSt w e W) : W.cell? ⟨w.heap.size, 3, none⟩ = some (.string e.d.sender) := by simp only [World.cell?, h.box]; rfl
theorem c4 (h : BoxSt w e W) : W.cell? ⟨w.heap.size, 4, none⟩ = some (.bool e.d.hk) := by simp only [World.cell?, h.box]; rfl
theorem c5 (h : BoxSt w e W) : W.cell? ⟨w.heap.size, 5, none⟩ = some (.string e.d.key) := by simp only [World.cell?, h.box]; rfl
theorem c6 (h : BoxSt w e W) : W.cell? ⟨w.heap.size, 6, none⟩ = some (.slice e.prev.a e.prev.n e.prev.c) := by simp only [World.cell?, h.box]; rfl
theorem c7 (h : BoxSt w e W) : W.cell? ⟨w.heap.size, 7, none⟩ = some (.slice e.auth.a e.auth.n e.auth.c) := by simp only [World.cell?, h.box]; rfl
theorem c8 (h : BoxSt w e W) : W.cell? ⟨w.heap.size, 8, none⟩ = some (.int .i64 e.d.depth) := by simp only [World.cell?, h.box]; rfl
theorem c9 (h : BoxSt w e W) : W.cell? ⟨w.heap.size, 9, none⟩ = some (.int .i64 e.d.stamp) := by simp only [World.cell?, h.box]; rfl
theorem c10 (h : BoxSt w e W) : W.cell? ⟨w.heap.size, 10, none⟩ = some (.int .i64 e.d.content.kind) := by simp only [World.cell?, h.box]; rfl
theorem c11 (h : BoxSt w e W) : W.cell? ⟨w.heap.size, 11, none⟩ = some (.bool e.d.content.b) := by simp only [World.cell?, h.box]; rfl
theorem c12 (h : BoxSt w e W) : W.cell? ⟨w.heap.size, 12, none⟩ = some (.int .i64 e.d.content.n) := by simp only [World.cell?, h.box]; rfl
theorem c13 (h : BoxSt w e W) : W.cell? ⟨w.heap.size, 13, none⟩ = some (.string e.d.content.text) := by simp only [World.cell?, h.box]; rfl
theorem c14 (h : BoxSt w e W) : W.cell? ⟨w.heap.size, 14, none⟩ = some (.slice e.cl.a e.cl.n e.cl.c) := by simp only [World.cell?, h.box]; rfl
theorem c15 (h : BoxSt w e W) : W.cell? ⟨w.heap.size, 15, none⟩ = some (.slice e.cf.a e.cf.n e.cf.c) := by simp only [World.cell?, h.box]; rfl
theorem fresh (h : BoxSt w e W) (hf : Fresh W W') : BoxSt w e W' := ⟨fcomp h.fr hf, (hf.blocks _ h.lt).trans h.box⟩
theorem new (w : World) (e : EV) : BoxSt w e (w.alloc (.cells e.cells 38)) := ⟨(Fresh.rfl' w).alloc (Nat.le_refl _) _, heap_alloc_new _ _⟩
end BoxSt

theorem len_zero {w : World} {col : Col} {v : SV} {l : List ByteArray} (h : StrSl w col (sv v) l) : v.n = l.length := by
  obtain ⟨ao, cap, h1, _⟩ := h.open
  have : v.a = ao ∧ v.n = l.length ∧ v.c = cap := by simpa [sv] using h1
  exact this.2.1

/-- What a create must be to be allowed. -/
structure CreateOk (e : Ev) : Prop where
  prev : e.prev = []
  auth : e.auth = []
  s1 : splitB e.room = true
  s2 : splitB e.sender = true
  room : roomB e.room = true
  user : userB e.sender = true
  same : splitS e.room = splitS e.sender
  version : wordF e.content sRoomVersion = some s11
  z1 : e.room.size ≤ 4294967280
  z2 : e.sender.size ≤ 4294967280
  a1 : Ascii e.room
  a2 : Ascii e.sender

set_option maxRecDepth 10000 in
set_option maxHeartbeats 800000 in
theorem create_ok (e : EV) (col : Col) (w : World) (hcol : Std w col) (he : EvIs w col e) (h : CreateOk e.d) :
    Calls Tryz.prog 78 #[evV e] w fun r w' => r = .returned (.int .i64 0) ∧ Fresh w w' := by
  obtain ⟨hp, ha, h1, h2, h3, h4, h5, h6, z1, z2, a1, a2⟩ := h
  have hn1 := len_zero he.prev
  have hn2 := len_zero he.auth
  rw [hp] at hn1; rw [ha] at hn2
  have hs1 := fun w' (h : Fresh w w') => split_b e.d.room w' col z1 a1 (hcol.fresh h)
  have hs2 := fun w' (h : Fresh w w') => split_b e.d.sender w' col z2 a2 (hcol.fresh h)
  have hr1 := fun w' (h : Fresh w w') => room_b e.d.room w' col z1 (hcol.fresh h)
  have hu1 := fun w' (h : Fresh w w') => user_b e.d.sender w' col z2 a2 (hcol.fresh h)
  have hwo := fun w' (h : Fresh w w') => word_any e.d.content e.cl e.cf sRoomVersion col w' (he.content.fresh h)
  simp only [h1, if_true] at hs1
  simp only [h2, if_true] at hs2
  simp only [h3] at hr1
  simp only [h4] at hu1
  simp only [h6] at hwo
  have Hs1 := Lib.hid hs1; have Hs2 := Lib.hid hs2; have Hr1 := Lib.hid hr1; have Hu1 := Lib.hid hu1; have Hwo := Lib.hid hwo
  have hne : ((splitS e.d.room).toList != (splitS e.d.sender).toList) = false := by rw [h5]; simp
  clear hs1 hs2 hr1 hu1 hwo hp ha h1 h2 h3 h4 h6 he hcol
  generalize splitS e.d.room = sr at *
  subst h5
  go_enter Tryz.func78, Tryz.ntmps78
  go_wp2_with fail
  have B0 := BoxSt.new w e
  refine (Hs1.out _ B0.fr).mono ?_
  rintro r w1 ⟨rfl, hf⟩
  have HB := Lib.hid (B0.fresh hf)
  clear hf B0
  have c3 := HB.out.c3; have hlt := HB.out.lt
  go_wp2_with fail
  refine (Hs2.out _ HB.out.fr).mono ?_
  rintro r w2 ⟨rfl, hf⟩
  have HB2 := Lib.hid (HB.out.fresh hf)
  clear hf HB c3 hlt
  have hlt := HB2.out.lt
  have c10 := HB2.out.c10; have c11 := HB2.out.c11; have c12 := HB2.out.c12; have c13 := HB2.out.c13; have c14 := HB2.out.c14; have c15 := HB2.out.c15
  go_wp2_with fail
  refine (Hwo.out _ HB2.out.fr).mono ?_
  rintro r w3 ⟨rfl, hf⟩
  have HB3 := Lib.hid (HB2.out.fresh hf)
  clear hf HB2 c10 c11 c12 c13 c14 c15 hlt
  have hlt := HB3.out.lt
  have c6 := HB3.out.c6; have c7 := HB3.out.c7; have c2 := HB3.out.c2; have c3 := HB3.out.c3
  rw [hn1] at c6; rw [hn2] at c7
  clear hn1 hn2
  dsimp only [List.length_nil] at c6 c7
  go_wp2_with fail
  refine (Hr1.out _ HB3.out.fr).mono ?_
  rintro r w4 ⟨rfl, hf⟩
  have HB4 := Lib.hid (HB3.out.fresh hf)
  clear hf HB3 c6 c7 c2 c3 hlt
  have hlt := HB4.out.lt
  have c3 := HB4.out.c3
  go_wp2_with fail
  refine (Hu1.out _ HB4.out.fr).mono ?_
  rintro r w5 ⟨rfl, hf⟩
  have HB5 := Lib.hid (HB4.out.fresh hf)
  clear hf HB4 c3 hlt
  go_wp2_with fail
  go_ret
  exact ⟨rfl, HB5.out.fr⟩
end Go.Proofs.YtmjclmmiljlahaaGreat

set_option linter.unusedVariables false
set_option linter.unusedSimpArgs false
namespace Go.Proofs.YtmjclmmiljlahaaGreat
open Go.RowKit

set_option maxRecDepth 10000 in
set_option maxHeartbeats 800000 in
/-- The creator's join right behind the create. -/
theorem join_first (e : EV) (v : SV) (l : List Ev) (E : Nat → EV) (col : Col) (w : World) (he : EvIs w col e) (hv : EvsSl w col v l E) (c : Ev)
    (hf : findF tCreate ⟨#[]⟩ l = some c) (hs : e.d.sender = e.d.key) (hp : e.d.prev = [c.id]) (hk : e.d.key = c.sender) :
    Calls Tryz.prog 123 #[sv v, evV e] w fun r w' => r = .returned (.int .i64 0) ∧ Fresh w w' := by
  obtain ⟨ao, cap, hpv, hcap, hcm, _, hj⟩ := he.prev.open
  obtain ⟨b, off, hao, hb, hcell⟩ := hj 0 (by rw [hp]; simp)
  have hpa : e.prev.a = ao ∧ e.prev.n = e.d.prev.length ∧ e.prev.c = cap := by simpa [sv] using hpv
  obtain ⟨q1, q2, q3⟩ := hpa
  rw [hao] at q1
  have hc0 : w.cell? ⟨b, off, none⟩ = some (.string c.id) := by simpa [hp] using hcell
  have q2 : e.prev.n = 1 := by rw [q2, hp]; rfl
  have q4 : (1 : Int) ≤ e.prev.c := by rw [q3]; rw [hp] at hcap; simp at hcap; omega
  have hfi := fun w' (h : Fresh w w') => find_any v l E tCreate ⟨#[]⟩ col w' (hv.fresh h)
  have hme := fun w' (h : Fresh w w') => membership_any v l E e.d.key col w' (hv.fresh h)
  rw [hf] at hfi
  have Hfi := Lib.hid hfi; have Hme := Lib.hid hme
  have hne : (e.d.sender.toList == e.d.key.toList) = true := by rw [hs]; simp
  have Hk := Lib.hid hk
  have Hq1 := Lib.hid q1; have Hq2 := Lib.hid q2
  have Hc0 := Lib.hid hc0
  clear hfi hme hf hs hp hk hpv hj hcell q1 q2 q3 hc0 he hv hao
  generalize hmm : membershipF e.d.key l = mm at *
  clear hmm
  dsimp only [sv, evV]
  go_enter Tryz.func123, Tryz.ntmps123
  go_wp2_with fail
  have B0 := BoxSt.new w e
  refine (Hfi.out _ B0.fr).mono ?_
  rintro r w1 ⟨c', rfl, hd, _, hf⟩
  have HB := Lib.hid (B0.fresh hf)
  dsimp only [Option.getD_some] at hd
  clear hf B0
  go_wp2_with (with_reducible refine stop_op (.store 38 (.tmp 5) (.tmp 11)) rfl ?_)
  refine Stand.go ?_
  refine wpList_store_new rfl 38 (.tmp 5) (.tmp 11) rfl _ rfl c'.cells rfl info38s rfl (EV.one c') ?_
  have HB2 := Lib.hid (HB.out.fresh ((Fresh.rfl' w1).alloc (Nat.le_refl _) (.cells c'.cells 38)))
  have c5 := HB.out.c5; have hlt := HB.out.lt
  go_wp2_with fail
  refine (Hme.out _ HB2.out.fr).mono ?_
  rintro r w2 ⟨rfl, hf⟩
  have HB3 := Lib.hid (HB2.out.fresh hf)
  have hcb : w2.heap[w1.heap.size]? = some (.cells c'.cells 38 (0, 0)) := (hf.blocks _ (by simp)).trans (heap_alloc_new _ _)
  have d0 : w2.cell? ⟨w1.heap.size, 0, none⟩ = some (.string c.id) := by rw [← hd]; simp only [World.cell?, hcb]; rfl
  have d3 : w2.cell? ⟨w1.heap.size, 3, none⟩ = some (.string c.sender) := by rw [← hd]; simp only [World.cell?, hcb]; rfl
  clear hf HB HB2 c5 hlt hcb
  have hlt := HB3.out.lt
  have c3 := HB3.out.c3; have c5 := HB3.out.c5; have c6 := HB3.out.c6
  rw [Hq1.out, Hq2.out] at c6
  have p0 : w2.cell? ⟨b, off, none⟩ = some (.string c.id) := HB3.out.fr.keep Hc0.out
  go_wp2_with fail
  rw [Hk.out] at c5
  have z1 : ((1 : Int) == 1) = true := rfl
  have z2 : (c.id.toList == c.id.toList) = true := by simp
  have z3 : (c.sender.toList == c.sender.toList) = true := by simp
  go_quiet (fail)
  go_wp2_with fail
  go_ret
  exact ⟨rfl, fcomp HB3.out.fr (drewN_fresh _ _)⟩

set_option maxRecDepth 10000 in
set_option maxHeartbeats 800000 in
theorem member_join (e : EV) (v : SV) (l : List Ev) (E : Nat → EV) (col : Col) (w : World) (hcol : Std w col) (he : EvIs w col e) (hv : EvsSl w col v l E) (n : Int)
    (hk : e.d.hk = true) (hu : userB e.d.key = true) (hw : wordF e.d.content sMembership = some sJoin) (z : e.d.key.size ≤ 4294967280) (a : Ascii e.d.key)
    (hj : ∀ w', Fresh w w' → Calls Tryz.prog 123 #[sv v, evV e] w' fun r w2 => r = .returned (.int .i64 n) ∧ Fresh w' w2) :
    Calls Tryz.prog 80 #[evV e, sv v] w fun r w' => r = .returned (.int .i64 n) ∧ Fresh w w' := by
  have hwo := fun w' (h : Fresh w w') => word_any e.d.content e.cl e.cf sMembership col w' (he.content.fresh h)
  have hu1 := fun w' (h : Fresh w w') => user_b e.d.key w' col z a (hcol.fresh h)
  simp only [hw] at hwo
  simp only [hu] at hu1
  have Hwo := Lib.hid hwo; have Hu1 := Lib.hid hu1; have Hj := Lib.hid hj
  have Hk := Lib.hid hk
  clear hwo hu1 hj hw hu he hv hcol a hk
  dsimp only [sv, evV]
  go_enter Tryz.func80, Tryz.ntmps80
  go_wp2_with fail
  have B0 := BoxSt.new w e
  refine (Hwo.out _ B0.fr).mono ?_
  rintro r w1 ⟨rfl, hf⟩
  have HB := Lib.hid (B0.fresh hf)
  clear hf B0
  dsimp only [Option.getD_some, Option.isSome_some]
  have c4 := HB.out.c4; have c5 := HB.out.c5; have hlt := HB.out.lt
  rw [Hk.out] at c4
  go_wp2_with fail
  refine (Hu1.out _ HB.out.fr).mono ?_
  rintro r w2 ⟨rfl, hf⟩
  have HB2 := Lib.hid (HB.out.fresh hf)
  clear hf HB c4 c5 hlt
  go_wp2_with (with_reducible refine stop_op (.load 38 (.tmp 2)) rfl ?_)
  refine Stand.go ?_
  refine wpList_load_row rfl 38 (.tmp 2) rfl w.heap.size rfl 38 e.cells (0, 0) _ HB2.out.box Tryz.underlying38 rfl info38s ?_
  go_wp2_with fail
  refine (Hj.out _ HB2.out.fr).mono ?_
  rintro r w3 ⟨rfl, hf⟩
  have HB3 := Lib.hid (HB2.out.fresh hf)
  clear hf HB2
  go_wp2_with fail
  go_ret
  exact ⟨rfl, HB3.out.fr⟩

set_option maxRecDepth 10000 in
set_option maxHeartbeats 800000 in
theorem needFor_none (e : EV) (v : SV) (l : List Ev) (E : Nat → EV) (col : Col) (w : World) (hv : EvsSl w col v l E) (hf : findF tLevels ⟨#[]⟩ l = none) :
    Calls Tryz.prog 129 #[sv v, evV e] w fun r w' => r = .returned (.int .i64 0) ∧ Fresh w w' := by
  have hfi := fun w' (h : Fresh w w') => find_any v l E tLevels ⟨#[]⟩ col w' (hv.fresh h)
  rw [hf] at hfi
  have Hfi := Lib.hid hfi
  clear hfi hf hv
  dsimp only [sv, evV]
  go_enter Tryz.func129, Tryz.ntmps129
  go_wp2_with fail
  have B0 := BoxSt.new w e
  refine (Hfi.out _ B0.fr).mono ?_
  rintro r w1 ⟨c', rfl, _, _, hf⟩
  have HB := Lib.hid (B0.fresh hf)
  clear hf B0
  go_wp2_with (with_reducible refine stop_op (.store 38 (.tmp 5) (.tmp 18)) rfl ?_)
  refine Stand.go ?_
  refine wpList_store_new rfl 38 (.tmp 5) (.tmp 18) rfl _ rfl c'.cells rfl info38s rfl (EV.one c') ?_
  go_wp2_with fail
  go_ret
  exact ⟨rfl, HB.out.fr.alloc HB.out.fr.size _⟩

theorem level_nonneg (user : ByteArray) (l : List Ev) (hf : findF tLevels ⟨#[]⟩ l = none) : 0 ≤ levelF user l := by
  unfold levelF; rw [hf]; dsimp only []
  split
  · split <;> omega
  · omega

set_option maxRecDepth 10000 in
set_option maxHeartbeats 800000 in
/-- A message of one who is joined, in a room without levels. -/
theorem ordinary_plain (e : EV) (v : SV) (l : List Ev) (E : Nat → EV) (col : Col) (w : World) (hv : EvsSl w col v l E) (hk : e.d.hk = false)
    (hf : findF tLevels ⟨#[]⟩ l = none) (hm : membershipF e.d.sender l = sJoin) :
    Calls Tryz.prog 81 #[evV e, sv v] w fun r w' => r = .returned (.int .i64 0) ∧ Fresh w w' := by
  have hle := fun w' (h : Fresh w w') => level_any v l E e.d.sender col w' (hv.fresh h)
  have hme := fun w' (h : Fresh w w') => membership_any v l E e.d.sender col w' (hv.fresh h)
  have hne := fun w' (h : Fresh w w') => needFor_none e v l E col w' (hv.fresh h) hf
  have h0 := level_nonneg e.d.sender l hf
  simp only [hm] at hme
  generalize levelF e.d.sender l = n at *
  have Hle := Lib.hid hle; have Hme := Lib.hid hme; have Hne := Lib.hid hne; have Hk := Lib.hid hk
  have hi : isF e.d tLevels = false := by unfold isF; rw [hk]; simp
  have Hi := Lib.hid hi
  clear hle hme hne hf hm hv hi hk
  dsimp only [sv, evV]
  go_enter Tryz.func81, Tryz.ntmps81
  go_wp2_with fail
  have B0 := BoxSt.new w e
  refine (Hle.out _ B0.fr).mono ?_
  rintro r w1 ⟨rfl, hf⟩
  have HB := Lib.hid (B0.fresh hf)
  clear hf B0
  have c3 := HB.out.c3; have hlt := HB.out.lt
  go_wp2_with fail
  refine (Hme.out _ HB.out.fr).mono ?_
  rintro r w2 ⟨rfl, hf⟩
  have HB2 := Lib.hid (HB.out.fresh hf)
  clear hf HB c3 hlt
  go_wp2_with (with_reducible refine stop_op (.load 38 (.tmp 2)) rfl ?_)
  refine Stand.go ?_
  refine wpList_load_row rfl 38 (.tmp 2) rfl w.heap.size rfl 38 e.cells (0, 0) _ HB2.out.box Tryz.underlying38 rfl info38s ?_
  go_wp2_with fail
  refine (Hne.out _ HB2.out.fr).mono ?_
  rintro r w3 ⟨rfl, hf⟩
  have HB3 := Lib.hid (HB2.out.fresh hf)
  clear hf HB2
  have c4 := HB3.out.c4; have hlt := HB3.out.lt
  rw [Hk.out] at c4
  go_wp2_with (with_reducible refine stop_op (.load 38 (.tmp 2)) rfl ?_)
  refine Stand.go ?_
  refine wpList_load_row rfl 38 (.tmp 2) rfl w.heap.size rfl 38 e.cells (0, 0) _ HB3.out.box Tryz.underlying38 rfl info38s ?_
  go_wp2_with fail
  refine (is_any e tLevels _).mono ?_
  rintro r w4 ⟨rfl, hf⟩
  rw [Hi.out]
  have HB4 := Lib.hid (HB3.out.fresh hf)
  clear hf HB3 c4 hlt
  go_wp2_with fail
  go_ret
  exact ⟨rfl, HB4.out.fr⟩
end Go.Proofs.YtmjclmmiljlahaaGreat

set_option linter.unusedVariables false
set_option linter.unusedSimpArgs false
namespace Go.Proofs.YtmjclmmiljlahaaGreat
open Go.RowKit

set_option maxRecDepth 10000 in
set_option maxHeartbeats 800000 in
theorem check_create (e : EV) (v : SV) (l : List Ev) (E : Nat → EV) (col : Col) (w : World) (hcol : Std w col) (he : EvIs w col e) (hv : EvsSl w col v l E) (hi : isF e.d tCreate = true) (h : CreateOk e.d) :
    Calls Tryz.prog 56 #[evV e, sv v] w fun r w' => r = .returned (.int .i64 0) ∧ Fresh w w' := by
  have hc := fun w' (hf : Fresh w w') => create_ok e col w' (hcol.fresh hf) (he.fresh hf) h
  have Hc := Lib.hid hc; have Hi := Lib.hid hi
  clear hc hi h hcol he hv
  dsimp only [sv, evV]
  go_enter Tryz.func56, Tryz.ntmps56
  have B0 := Lib.hid (BoxSt.new w e)
  go_wp2_with (with_reducible refine stop_op (.load 38 (.tmp 2)) rfl ?_)
  refine Stand.go ?_
  refine wpList_load_row rfl 38 (.tmp 2) rfl w.heap.size rfl 38 e.cells (0, 0) _ B0.out.box Tryz.underlying38 rfl info38s ?_
  go_wp2_with fail
  refine (is_any e tCreate _).mono ?_
  rintro r w1 ⟨rfl, hf⟩
  rw [Hi.out]
  have HB := Lib.hid (B0.out.fresh hf)
  clear hf B0
  go_wp2_with (with_reducible refine stop_op (.load 38 (.tmp 2)) rfl ?_)
  refine Stand.go ?_
  refine wpList_load_row rfl 38 (.tmp 2) rfl w.heap.size rfl 38 e.cells (0, 0) _ HB.out.box Tryz.underlying38 rfl info38s ?_
  go_wp2_with fail
  refine (Hc.out _ HB.out.fr).mono ?_
  rintro r w2 ⟨rfl, hf⟩
  have HB2 := Lib.hid (HB.out.fresh hf)
  clear hf HB
  go_wp2_with fail
  go_ret
  exact ⟨rfl, HB2.out.fr⟩

set_option maxRecDepth 10000 in
set_option maxHeartbeats 800000 in
theorem check_lists (e : EV) (v : SV) (l : List Ev) (E : Nat → EV) (col : Col) (w : World) (hcol : Std w col) (he : EvIs w col e) (hv : EvsSl w col v l E) (n : Int) (hi : isF e.d tCreate = false) (hn : listsF e.d l = n) (h0 : (n == 0) = false) :
    Calls Tryz.prog 56 #[evV e, sv v] w fun r w' => r = .returned (.int .i64 n) ∧ Fresh w w' := by
  have hl := fun w' (hf : Fresh w w') => lists_any e v l E col w' (hcol.fresh hf) (he.fresh hf) (hv.fresh hf)
  rw [hn] at hl
  have Hl := Lib.hid hl; have Hi := Lib.hid hi
  clear hl hi hn hcol he hv
  dsimp only [sv, evV]
  go_enter Tryz.func56, Tryz.ntmps56
  have B0 := Lib.hid (BoxSt.new w e)
  go_wp2_with (with_reducible refine stop_op (.load 38 (.tmp 2)) rfl ?_)
  refine Stand.go ?_
  refine wpList_load_row rfl 38 (.tmp 2) rfl w.heap.size rfl 38 e.cells (0, 0) _ B0.out.box Tryz.underlying38 rfl info38s ?_
  go_wp2_with fail
  refine (is_any e tCreate _).mono ?_
  rintro r w1 ⟨rfl, hf⟩
  rw [Hi.out]
  have HB := Lib.hid (B0.out.fresh hf)
  clear hf B0
  go_wp2_with (with_reducible refine stop_op (.load 38 (.tmp 2)) rfl ?_)
  refine Stand.go ?_
  refine wpList_load_row rfl 38 (.tmp 2) rfl w.heap.size rfl 38 e.cells (0, 0) _ HB.out.box Tryz.underlying38 rfl info38s ?_
  go_wp2_with fail
  refine (Hl.out _ HB.out.fr).mono ?_
  rintro r w2 ⟨rfl, hf⟩
  have HB2 := Lib.hid (HB.out.fresh hf)
  clear hf HB
  go_wp2_with fail
  go_ret
  exact ⟨rfl, HB2.out.fr⟩

set_option maxRecDepth 10000 in
set_option maxHeartbeats 800000 in
theorem check_member (e : EV) (v : SV) (l : List Ev) (E : Nat → EV) (col : Col) (w : World) (hcol : Std w col) (he : EvIs w col e) (hv : EvsSl w col v l E) (n : Int) (hi : isF e.d tCreate = false) (hn : listsF e.d l = 0) (ht : (e.d.ty.toList == [109, 46, 114, 111, 111, 109, 46, 109, 101, 109, 98, 101, 114]) = true) (hm : ∀ w', Fresh w w' → Calls Tryz.prog 80 #[evV e, sv v] w' fun r w2 => r = .returned (.int .i64 n) ∧ Fresh w' w2) :
    Calls Tryz.prog 56 #[evV e, sv v] w fun r w' => r = .returned (.int .i64 n) ∧ Fresh w w' := by
  have hl := fun w' (hf : Fresh w w') => lists_any e v l E col w' (hcol.fresh hf) (he.fresh hf) (hv.fresh hf)
  rw [hn] at hl
  have Hl := Lib.hid hl; have Hi := Lib.hid hi
  have Hm := Lib.hid hm
  clear hl hi hn hcol he hv hm
  dsimp only [sv, evV]
  go_enter Tryz.func56, Tryz.ntmps56
  have B0 := Lib.hid (BoxSt.new w e)
  go_wp2_with (with_reducible refine stop_op (.load 38 (.tmp 2)) rfl ?_)
  refine Stand.go ?_
  refine wpList_load_row rfl 38 (.tmp 2) rfl w.heap.size rfl 38 e.cells (0, 0) _ B0.out.box Tryz.underlying38 rfl info38s ?_
  go_wp2_with fail
  refine (is_any e tCreate _).mono ?_
  rintro r w1 ⟨rfl, hf⟩
  rw [Hi.out]
  have HB := Lib.hid (B0.out.fresh hf)
  clear hf B0
  go_wp2_with (with_reducible refine stop_op (.load 38 (.tmp 2)) rfl ?_)
  refine Stand.go ?_
  refine wpList_load_row rfl 38 (.tmp 2) rfl w.heap.size rfl 38 e.cells (0, 0) _ HB.out.box Tryz.underlying38 rfl info38s ?_
  go_wp2_with fail
  refine (Hl.out _ HB.out.fr).mono ?_
  rintro r w2 ⟨rfl, hf⟩
  have HB2 := Lib.hid (HB.out.fresh hf)
  clear hf HB
  have c1 := HB2.out.c1; have hlt := HB2.out.lt
  go_wp2_with (with_reducible refine stop_op (.load 38 (.tmp 2)) rfl ?_)
  refine Stand.go ?_
  refine wpList_load_row rfl 38 (.tmp 2) rfl w.heap.size rfl 38 e.cells (0, 0) _ HB2.out.box Tryz.underlying38 rfl info38s ?_
  go_wp2_with fail
  refine (Hm.out _ HB2.out.fr).mono ?_
  rintro r w3 ⟨rfl, hf⟩
  have HB3 := Lib.hid (HB2.out.fresh hf)
  clear hf HB2 c1 hlt
  go_wp2_with fail
  go_ret
  exact ⟨rfl, HB3.out.fr⟩

set_option maxRecDepth 10000 in
set_option maxHeartbeats 800000 in
theorem check_ordinary (e : EV) (v : SV) (l : List Ev) (E : Nat → EV) (col : Col) (w : World) (hcol : Std w col) (he : EvIs w col e) (hv : EvsSl w col v l E) (n : Int) (hi : isF e.d tCreate = false) (hn : listsF e.d l = 0) (ht : (e.d.ty.toList == [109, 46, 114, 111, 111, 109, 46, 109, 101, 109, 98, 101, 114]) = false) (hm : ∀ w', Fresh w w' → Calls Tryz.prog 81 #[evV e, sv v] w' fun r w2 => r = .returned (.int .i64 n) ∧ Fresh w' w2) :
    Calls Tryz.prog 56 #[evV e, sv v] w fun r w' => r = .returned (.int .i64 n) ∧ Fresh w w' := by
  have hl := fun w' (hf : Fresh w w') => lists_any e v l E col w' (hcol.fresh hf) (he.fresh hf) (hv.fresh hf)
  rw [hn] at hl
  have Hl := Lib.hid hl; have Hi := Lib.hid hi
  have Hm := Lib.hid hm
  clear hl hi hn hcol he hv hm
  dsimp only [sv, evV]
  go_enter Tryz.func56, Tryz.ntmps56
  have B0 := Lib.hid (BoxSt.new w e)
  go_wp2_with (with_reducible refine stop_op (.load 38 (.tmp 2)) rfl ?_)
  refine Stand.go ?_
  refine wpList_load_row rfl 38 (.tmp 2) rfl w.heap.size rfl 38 e.cells (0, 0) _ B0.out.box Tryz.underlying38 rfl info38s ?_
  go_wp2_with fail
  refine (is_any e tCreate _).mono ?_
  rintro r w1 ⟨rfl, hf⟩
  rw [Hi.out]
  have HB := Lib.hid (B0.out.fresh hf)
  clear hf B0
  go_wp2_with (with_reducible refine stop_op (.load 38 (.tmp 2)) rfl ?_)
  refine Stand.go ?_
  refine wpList_load_row rfl 38 (.tmp 2) rfl w.heap.size rfl 38 e.cells (0, 0) _ HB.out.box Tryz.underlying38 rfl info38s ?_
  go_wp2_with fail
  refine (Hl.out _ HB.out.fr).mono ?_
  rintro r w2 ⟨rfl, hf⟩
  have HB2 := Lib.hid (HB.out.fresh hf)
  clear hf HB
  have c1 := HB2.out.c1; have hlt := HB2.out.lt
  go_wp2_with (with_reducible refine stop_op (.load 38 (.tmp 2)) rfl ?_)
  refine Stand.go ?_
  refine wpList_load_row rfl 38 (.tmp 2) rfl w.heap.size rfl 38 e.cells (0, 0) _ HB2.out.box Tryz.underlying38 rfl info38s ?_
  go_wp2_with fail
  refine (Hm.out _ HB2.out.fr).mono ?_
  rintro r w3 ⟨rfl, hf⟩
  have HB3 := Lib.hid (HB2.out.fresh hf)
  clear hf HB2 c1 hlt
  go_wp2_with fail
  go_ret
  exact ⟨rfl, HB3.out.fr⟩
end Go.Proofs.YtmjclmmiljlahaaGreat
