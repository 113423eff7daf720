/-
  Parts of a proof: the examples; the data of DagStages. No condition.
-/
import Derived.Test.YtmjclmmiljlahaaGreatG8
set_option linter.unusedVariables false
set_option linter.unusedSimpArgs false
namespace Go.Proofs.YtmjclmmiljlahaaGreat
open Go.RowKit

/-- The room of the examples, and its three events in variables. -/
structure UpS (w : World) (col : Col) (R bc bj bm : Nat) (ec ej em : EV) (W : World) (col' : Col) (r : Rm) (d : RmD) : Prop where
  is : RmIs W col' 0 R r
  std : Std W col'
  keep : Keep w col W col' (outC 0)
  d : r.d = d
  vc : VarIs W col' bc ec
  vj : VarIs W col' bj ej
  vm : VarIs W col' bm em
theorem UpS.next {w : World} {col : Col} {R bc bj bm : Nat} {ec ej em : EV} {W W' : World} {col1 col2 : Col} {r r' : Rm} {d d' : RmD} (h : UpS w col R bc bj bm ec ej em W col1 r d) (hj : JSt W col1 0 R W' col2 r') (hd : r'.d = d') :
    UpS w col R bc bj bm ec ej em W' col2 r' d' :=
  ⟨hj.is, hj.std, h.keep.trans hj.keep, hd, h.vc.keep hj.keep (outC_zero 0), h.vj.keep hj.keep (outC_zero 0), h.vm.keep hj.keep (outC_zero 0)⟩
theorem UpS.fresh {w : World} {col : Col} {R bc bj bm : Nat} {ec ej em : EV} {W W' : World} {col1 : Col} {r : Rm} {d : RmD} (h : UpS w col R bc bj bm ec ej em W col1 r d) (hf : Fresh W W') :
    UpS w col R bc bj bm ec ej em W' col1 r d :=
  ⟨h.is.fresh hf, h.std.fresh hf, h.keep.trans (Keep.ofFresh hf), h.d, h.vc.fresh hf, h.vj.fresh hf, h.vm.fresh hf⟩
theorem StrSl.fresh' {w w' : World} {col : Col} {v : Value} {l : List ByteArray} (h : StrSl w col v l) (hf : Fresh w w') : StrSl w' col v l := Sl.fresh h hf
theorem eql_err (n m : Int) (w : World) : (binOp .eql 25 (.iface 39 (.int .i64 n)) (.iface 39 (.int .i64 m))).run Tryz.prog w = .ok (.bool (n == m)) w := by kernel_rfl

set_option maxRecDepth 100000 in
set_option maxHeartbeats 6400000 in
/-- The document's examples: up answers true. -/
theorem up_any {w : World} {col : Col} (hcol : Std w col) : Calls Tryz.prog 5 #[] w fun x w' => x = .returned (.bool true) ∧ ∃ col', Std w' col' ∧ Keep w col w' col' (outC 0) := by
  go_enter Tryz.func5, Tryz.ntmps5
  go_wp2_with fail
  refine (new_any rX 0 (by decide) hcol roomB_x).mono ?_
  rintro x w1 ⟨R, nm, em, col1, rfl, hr1, hs1, hk1⟩
  have Hr1 := Lib.hid hr1; have Hs1 := Lib.hid hs1; have Hk1 := Lib.hid hk1
  clear hr1 hs1 hk1
  go_wp2_with fail
  refine (content_any sRoomVersion s11 Hs1.out).mono ?_
  rintro x w2 ⟨bv, rfl, hj, hf⟩
  have HJc := Lib.hid hj; have HF2 := Lib.hid hf
  clear hj hf
  go_wp2_with (with_reducible refine stop_op (.build 38 _) rfl ?_)
  refine Stand.go ?_
  refine wpList_build38 rfl _ rfl _ (by simp only [List.map_toArray, List.map_cons, List.map_nil]; rfl) ⟨evC, .nil, .nil, .nil, bv, .nil, .nil⟩ (build_c bv) ?_
  go_wp2_with (with_reducible refine stop_op (.store 38 (.tmp 3) (.tmp 31)) rfl ?_)
  refine Stand.go ?_
  refine wpList_store_new rfl 38 (.tmp 3) (.tmp 31) rfl _ rfl (EV.cells ⟨evC, .nil, .nil, .nil, bv, .nil, .nil⟩) rfl info38s rfl (EV.one _) ?_
  go_wp2_with fail
  obtain ⟨bc, hbc⟩ : ∃ x, x = w2.heap.size := ⟨_, rfl⟩
  rw [← hbc]
  have hl1 := HF2.out.size
  have hW3 : Hid (Fresh w1 (((w2.alloc (.cells (EV.cells ⟨evC, .nil, .nil, .nil, bv, .nil, .nil⟩) 38)).alloc (.cells #[.string idC] 9)).alloc (.cells #[.string idC] 9))) := ((HF2.out.alloc HF2.out.size _).alloc (by simp; omega) _).alloc (by simp; omega) _
  have hvc : Hid (VarIs (((w2.alloc (.cells (EV.cells ⟨evC, .nil, .nil, .nil, bv, .nil, .nil⟩) 38)).alloc (.cells #[.string idC] 9)).alloc (.cells #[.string idC] 9)) col1 bc ⟨evC, .nil, .nil, .nil, bv, .nil, .nil⟩) :=
    ⟨(Below.heap_alloc _ _ _ (by simp; omega)).trans ((Below.heap_alloc _ _ _ (by simp; omega)).trans (heap_alloc_at hbc.symm)), Hs1.out.ok _ (by omega), ⟨str_nil _ _, str_nil _ _, HJc.out.fresh (((Fresh.rfl' w2).alloc (Nat.le_refl _) _ |>.alloc (by simp) _).alloc (by simp; omega) _), jv_zero _ _, Nat.zero_le _⟩⟩
  have hs1 : Hid ((((w2.alloc (.cells (EV.cells ⟨evC, .nil, .nil, .nil, bv, .nil, .nil⟩) 38)).alloc (.cells #[.string idC] 9)).alloc (.cells #[.string idC] 9)).heap[bc + 1]? = some (.cells #[.string idC] 9 (0, 0))) :=
    (Below.heap_alloc _ _ _ (by simp; omega)).trans (heap_alloc_at (by simp; omega))
  have hs2 : Hid ((((w2.alloc (.cells (EV.cells ⟨evC, .nil, .nil, .nil, bv, .nil, .nil⟩) 38)).alloc (.cells #[.string idC] 9)).alloc (.cells #[.string idC] 9)).heap[bc + 1 + 1]? = some (.cells #[.string idC] 9 (0, 0))) := heap_alloc_at (by simp; omega)
  have hcb : Hid (∀ b, bc ≤ b → col1 b = 0) := fun b hb => Hs1.out.ok b (by omega)
  refine (content_any sMembership sJoin (Hs1.out.fresh hW3.out)).mono ?_
  rintro x w4 ⟨bv2, rfl, hj2, hf4⟩
  have HF4 := Lib.hid (fcomp hW3.out hf4)
  have HVc : Hid (VarIs w4 col1 bc ⟨evC, .nil, .nil, .nil, bv, .nil, .nil⟩) := hvc.out.fresh hf4
  have HS1 : Hid (w4.heap[bc + 1]? = some (.cells #[.string idC] 9 (0, 0))) := (hf4.blocks _ (box_lt hs1.out)).trans hs1.out
  have HS2 : Hid (w4.heap[bc + 1 + 1]? = some (.cells #[.string idC] 9 (0, 0))) := (hf4.blocks _ (box_lt hs2.out)).trans hs2.out
  have HJj := Lib.hid hj2
  have hl4 : bc + 1 + 1 < w4.heap.size := box_lt HS2.out
  clear hj2 hf4 hvc hs1 hs2 hW3 HJc HF2 hbc hl1
  go_wp2_with (with_reducible refine stop_op (.build 38 _) rfl ?_)
  refine Stand.go ?_
  refine wpList_build38 rfl _ rfl _ (by simp only [List.map_toArray, List.map_cons, List.map_nil]; rfl) ⟨evJ, ⟨some ⟨bc + 1, 0, none⟩, 1, 1⟩, ⟨some ⟨bc + 1 + 1, 0, none⟩, 1, 1⟩, .nil, bv2, .nil, .nil⟩ (build_j ⟨some ⟨bc + 1, 0, none⟩, 1, 1⟩ ⟨some ⟨bc + 1 + 1, 0, none⟩, 1, 1⟩ bv2) ?_
  go_wp2_with (with_reducible refine stop_op (.store 38 (.tmp 4) (.tmp 35)) rfl ?_)
  refine Stand.go ?_
  refine wpList_store_new rfl 38 (.tmp 4) (.tmp 35) rfl _ rfl (EV.cells ⟨evJ, ⟨some ⟨bc + 1, 0, none⟩, 1, 1⟩, ⟨some ⟨bc + 1 + 1, 0, none⟩, 1, 1⟩, .nil, bv2, .nil, .nil⟩) rfl info38s rfl (EV.one _) ?_
  go_wp2_with (with_reducible refine stop_op (.build 38 _) rfl ?_)
  refine Stand.go ?_
  refine wpList_build38 rfl _ rfl _ (by simp only [List.map_toArray, List.map_cons, List.map_nil]; rfl) ⟨evM, ⟨some ⟨w4.heap.size + 1, 0, none⟩, 1, 1⟩, ⟨some ⟨w4.heap.size + 1 + 1, 0, none⟩, 2, 2⟩, .nil, .nil, .nil, .nil⟩ (build_m ⟨some ⟨w4.heap.size + 1, 0, none⟩, 1, 1⟩ ⟨some ⟨w4.heap.size + 1 + 1, 0, none⟩, 2, 2⟩) ?_
  go_wp2_with (with_reducible refine stop_op (.store 38 (.tmp 5) (.tmp 38)) rfl ?_)
  refine Stand.go ?_
  refine wpList_store_new rfl 38 (.tmp 5) (.tmp 38) rfl _ (by simp only [World.size_alloc]; rfl) (EV.cells ⟨evM, ⟨some ⟨w4.heap.size + 1, 0, none⟩, 1, 1⟩, ⟨some ⟨w4.heap.size + 1 + 1, 0, none⟩, 2, 2⟩, .nil, .nil, .nil, .nil⟩) rfl info38s rfl (EV.one _) ?_
  obtain ⟨bj, hbj⟩ : ∃ x, x = w4.heap.size := ⟨_, rfl⟩
  rw [← hbj]
  obtain ⟨bm, hbm⟩ : ∃ x, x = bj + 1 + 1 + 1 := ⟨_, rfl⟩
  have hXf : Hid (Fresh w4 ((((w4.alloc (.cells (EV.cells ⟨evJ, ⟨some ⟨bc + 1, 0, none⟩, 1, 1⟩, ⟨some ⟨bc + 1 + 1, 0, none⟩, 1, 1⟩, .nil, bv2, .nil, .nil⟩) 38)).alloc (.cells #[.string idJ] 9)).alloc (.cells #[.string idC, .string idJ] 9)).alloc (.cells (EV.cells ⟨evM, ⟨some ⟨bj + 1, 0, none⟩, 1, 1⟩, ⟨some ⟨bj + 1 + 1, 0, none⟩, 2, 2⟩, .nil, .nil, .nil, .nil⟩) 38))) :=
    ((((Fresh.rfl' w4).alloc (Nat.le_refl _) _).alloc (by simp) _).alloc (by simp; omega) _).alloc (by simp; omega) _
  refine hideWorld _ (fun W => RmIs W col1 0 R (Rm.new rX nm em) ∧ Std W col1 ∧ Fresh w1 W ∧ VarIs W col1 bc ⟨evC, .nil, .nil, .nil, bv, .nil, .nil⟩ ∧ VarIs W col1 bj ⟨evJ, ⟨some ⟨bc + 1, 0, none⟩, 1, 1⟩, ⟨some ⟨bc + 1 + 1, 0, none⟩, 1, 1⟩, .nil, bv2, .nil, .nil⟩ ∧ VarIs W col1 bm ⟨evM, ⟨some ⟨bj + 1, 0, none⟩, 1, 1⟩, ⟨some ⟨bj + 1 + 1, 0, none⟩, 2, 2⟩, .nil, .nil, .nil, .nil⟩) _ ⟨Hr1.out.fresh (fcomp HF4.out hXf.out), Hs1.out.fresh (fcomp HF4.out hXf.out), fcomp HF4.out hXf.out, HVc.out.fresh hXf.out, ?_, ?_⟩ ?_
  · have hb1 : ((((w4.alloc (.cells (EV.cells ⟨evJ, ⟨some ⟨bc + 1, 0, none⟩, 1, 1⟩, ⟨some ⟨bc + 1 + 1, 0, none⟩, 1, 1⟩, .nil, bv2, .nil, .nil⟩) 38)).alloc (.cells #[.string idJ] 9)).alloc (.cells #[.string idC, .string idJ] 9)).alloc (.cells (EV.cells ⟨evM, ⟨some ⟨bj + 1, 0, none⟩, 1, 1⟩, ⟨some ⟨bj + 1 + 1, 0, none⟩, 2, 2⟩, .nil, .nil, .nil, .nil⟩) 38)).heap[bj]? = some (.cells (EV.cells ⟨evJ, ⟨some ⟨bc + 1, 0, none⟩, 1, 1⟩, ⟨some ⟨bc + 1 + 1, 0, none⟩, 1, 1⟩, .nil, bv2, .nil, .nil⟩) 38 (0, 0)) :=
      (Below.heap_alloc _ _ _ (by simp; omega)).trans ((Below.heap_alloc _ _ _ (by simp; omega)).trans ((Below.heap_alloc _ _ _ (by simp; omega)).trans (heap_alloc_at hbj.symm)))
    refine ⟨hb1, hcb.out _ (by omega), ⟨str_lit [idC] (bc + 1) ((hXf.out.blocks _ (box_lt HS1.out)).trans HS1.out) (hcb.out _ (by omega)) (by decide), str_lit [idC] (bc + 1 + 1) ((hXf.out.blocks _ (box_lt HS2.out)).trans HS2.out) (hcb.out _ (by omega)) (by decide), HJj.out.fresh hXf.out, jv_zero _ _, by show 1 + 1 ≤ 4294967296; omega⟩⟩
  · have hb1 : ((((w4.alloc (.cells (EV.cells ⟨evJ, ⟨some ⟨bc + 1, 0, none⟩, 1, 1⟩, ⟨some ⟨bc + 1 + 1, 0, none⟩, 1, 1⟩, .nil, bv2, .nil, .nil⟩) 38)).alloc (.cells #[.string idJ] 9)).alloc (.cells #[.string idC, .string idJ] 9)).alloc (.cells (EV.cells ⟨evM, ⟨some ⟨bj + 1, 0, none⟩, 1, 1⟩, ⟨some ⟨bj + 1 + 1, 0, none⟩, 2, 2⟩, .nil, .nil, .nil, .nil⟩) 38)).heap[bm]? = some (.cells (EV.cells ⟨evM, ⟨some ⟨bj + 1, 0, none⟩, 1, 1⟩, ⟨some ⟨bj + 1 + 1, 0, none⟩, 2, 2⟩, .nil, .nil, .nil, .nil⟩) 38 (0, 0)) := heap_alloc_at (by simp; omega)
    have hb2 : ((((w4.alloc (.cells (EV.cells ⟨evJ, ⟨some ⟨bc + 1, 0, none⟩, 1, 1⟩, ⟨some ⟨bc + 1 + 1, 0, none⟩, 1, 1⟩, .nil, bv2, .nil, .nil⟩) 38)).alloc (.cells #[.string idJ] 9)).alloc (.cells #[.string idC, .string idJ] 9)).alloc (.cells (EV.cells ⟨evM, ⟨some ⟨bj + 1, 0, none⟩, 1, 1⟩, ⟨some ⟨bj + 1 + 1, 0, none⟩, 2, 2⟩, .nil, .nil, .nil, .nil⟩) 38)).heap[bj + 1]? = some (.cells #[.string idJ] 9 (0, 0)) :=
      (Below.heap_alloc _ _ _ (by simp; omega)).trans ((Below.heap_alloc _ _ _ (by simp; omega)).trans (heap_alloc_at (by simp; omega)))
    have hb3 : ((((w4.alloc (.cells (EV.cells ⟨evJ, ⟨some ⟨bc + 1, 0, none⟩, 1, 1⟩, ⟨some ⟨bc + 1 + 1, 0, none⟩, 1, 1⟩, .nil, bv2, .nil, .nil⟩) 38)).alloc (.cells #[.string idJ] 9)).alloc (.cells #[.string idC, .string idJ] 9)).alloc (.cells (EV.cells ⟨evM, ⟨some ⟨bj + 1, 0, none⟩, 1, 1⟩, ⟨some ⟨bj + 1 + 1, 0, none⟩, 2, 2⟩, .nil, .nil, .nil, .nil⟩) 38)).heap[bj + 1 + 1]? = some (.cells #[.string idC, .string idJ] 9 (0, 0)) :=
      (Below.heap_alloc _ _ _ (by simp; omega)).trans (heap_alloc_at (by simp; omega))
    exact ⟨hb1, hcb.out _ (by omega), ⟨str_lit [idJ] (bj + 1) hb2 (hcb.out _ (by omega)) (by decide), str_lit [idC, idJ] (bj + 1 + 1) hb3 (hcb.out _ (by omega)) (by decide), jv_zero _ _, jv_zero _ _, by show 1 + 2 ≤ 4294967296; omega⟩⟩
  clear hXf HJj HS1 HS2 hcb HVc HF4 hl4 hbj
  rintro W5 ⟨h51, h52, h53, h54, h55, h56⟩
  rw [← hbm]
  obtain ⟨ec, hec⟩ : ∃ x : EV, x = ⟨evC, .nil, .nil, .nil, bv, .nil, .nil⟩ := ⟨_, rfl⟩
  obtain ⟨ej, hej⟩ : ∃ x : EV, x = ⟨evJ, ⟨some ⟨bc + 1, 0, none⟩, 1, 1⟩, ⟨some ⟨bc + 1 + 1, 0, none⟩, 1, 1⟩, .nil, bv2, .nil, .nil⟩ := ⟨_, rfl⟩
  obtain ⟨em', hem⟩ : ∃ x : EV, x = ⟨evM, ⟨some ⟨bj + 1, 0, none⟩, 1, 1⟩, ⟨some ⟨bj + 1 + 1, 0, none⟩, 2, 2⟩, .nil, .nil, .nil, .nil⟩ := ⟨_, rfl⟩
  rw [← hec] at h54
  rw [← hej] at h55
  rw [← hem] at h56
  have Hec : Hid (ec.d = evC) := by rw [hec]; rfl
  have Hej : Hid (ej.d = evJ) := by rw [hej]; rfl
  have Hem : Hid (em'.d = evM) := by rw [hem]; rfl
  have HU : Hid (UpS w col R bc bj bm ec ej em' W5 col1 (Rm.new rX nm em) u0) := ⟨h51, h52, (Hk1.out.imp fun _ _ => trivial).trans (Keep.ofFresh h53), rfl, h54, h55, h56⟩
  clear hec hej hem hbm h51 h52 h53 h54 h55 h56 Hr1 Hs1 Hk1
  -- m is staged
  go_wp2_with (with_reducible refine stop_op (.load 38 (.tmp 5)) rfl ?_)
  refine Stand.go ?_
  refine wpList_load_cells rfl 38 (.tmp 5) rfl bm 0 rfl em'.cells HU.out.vm.cells _ Tryz.underlying38 rfl info38s ?_
  go_wp2_with fail
  refine (takeD_staged HU.out.is HU.out.std HU.out.d em' HU.out.vm.ev (by rw [Hem.out]; decide) (by rw [Hem.out]; rfl) (by rw [Hem.out]; kernel_rfl) (by rw [Hem.out]; rfl) (by rw [Hem.out]; kernel_rfl) (by decide) (by decide)).mono ?_
  rintro x w6 ⟨rfl, col6, r6, hj6, hd6⟩
  have HU6 : Hid (UpS w col R bc bj bm ec ej em' w6 col6 r6 u1) := HU.out.next hj6 (by rw [hd6, Hem.out]; rfl)
  clear hj6 hd6 HU
  have HU := HU6
  clear HU6
  -- c is accepted
  go_wp2_with (with_reducible refine stop_op (.load 38 (.tmp 3)) rfl ?_)
  refine Stand.go ?_
  refine wpList_load_cells rfl 38 (.tmp 3) rfl bc 0 rfl ec.cells HU.out.vc.cells _ Tryz.underlying38 rfl info38s ?_
  go_wp2_with fail
  have hc := takeD_judged HU.out.is HU.out.std HU.out.d ec HU.out.vc.ev (by rw [Hec.out]; decide) (by rw [Hec.out]; rfl) (by rw [Hec.out]; kernel_rfl) (by rw [Hec.out]; kernel_rfl) (by rw [Hec.out]; kernel_rfl) (by decide) u2 u2 [] (by rw [Hec.out]; exact judge_c) run_c (by decide)
  have hmk : u2.mark ec.d.id = 2 := by rw [Hec.out]; kernel_rfl
  rw [hmk] at hc
  have Hc := Lib.hid hc
  clear hc hmk
  refine Hc.out.mono ?_
  rintro x w7 ⟨col7, r7, ⟨ya, yn, yc⟩, rfl, hj7, hd7, _⟩
  have HU7 : Hid (UpS w col R bc bj bm ec ej em' w7 col7 r7 u2) := HU.out.next hj7 hd7
  clear hj7 hd7 HU Hc
  have HU := HU7
  clear HU7
  -- what is missing
  go_wp2_with fail
  have hms : u2.missing = [idJ] := by kernel_rfl
  have hc := missingD HU.out.is HU.out.std HU.out.d (staged_one rfl (by kernel_rfl)) (by rw [hms]; intro s hs; rw [List.mem_singleton.1 hs]; decide) (by rw [hms]; decide)
  rw [hms, sortedS_one] at hc
  have Hc := Lib.hid hc
  clear hc hms
  refine Hc.out.mono ?_
  rintro x w8 ⟨⟨ga, gn, gc⟩, rfl, hg, hf8⟩
  have HG : Hid (StrSl w8 col7 (.slice ga gn gc) [idJ]) := hg
  have HU8 := Lib.hid (HU.out.fresh hf8)
  clear hg hf8 HU Hc
  have HU := HU8
  clear HU8
  -- j is accepted, and m
  go_wp2_with (with_reducible refine stop_op (.load 38 (.tmp 4)) rfl ?_)
  refine Stand.go ?_
  refine wpList_load_cells rfl 38 (.tmp 4) rfl bj 0 rfl ej.cells HU.out.vj.cells _ Tryz.underlying38 rfl info38s ?_
  go_wp2_with fail
  have hc := takeD_judged HU.out.is HU.out.std HU.out.d ej HU.out.vj.ev (by rw [Hej.out]; decide) (by rw [Hej.out]; rfl) (by rw [Hej.out]; kernel_rfl) (by rw [Hej.out]; kernel_rfl) (by rw [Hej.out]; kernel_rfl) (by decide) u3 u4 [idM] (by rw [Hej.out]; exact judge_j) run_j (by decide)
  have hmk : u4.mark ej.d.id = 2 := by rw [Hej.out]; kernel_rfl
  rw [hmk] at hc
  have Hc := Lib.hid hc
  clear hc hmk
  refine Hc.out.mono ?_
  rintro x w9 ⟨col9, r9, ⟨ma, mn, mc⟩, rfl, hj9, hd9, hm9⟩
  have HG9 : Hid (StrSl w9 col9 (.slice ga gn gc) [idJ]) := HG.out.move (hj9.keep.move (outC_zero 0))
  have HM9 : Hid (StrSl w9 col9 (.slice ma mn mc) [idM]) := hm9
  have HU9 : Hid (UpS w col R bc bj bm ec ej em' w9 col9 r9 u4) := HU.out.next hj9 hd9
  clear hj9 hd9 HU Hc HG hm9
  have HU := HU9
  clear HU9
  -- c is known
  go_wp2_with (with_reducible refine stop_op (.load 38 (.tmp 3)) rfl ?_)
  refine Stand.go ?_
  refine wpList_load_cells rfl 38 (.tmp 3) rfl bc 0 rfl ec.cells HU.out.vc.cells _ Tryz.underlying38 rfl info38s ?_
  go_wp2_with fail
  refine (takeD_known HU.out.is HU.out.std HU.out.d ec HU.out.vc.ev (by rw [Hec.out]; decide) (by rw [Hec.out]; rfl) (by rw [Hec.out]; kernel_rfl) (by rw [Hec.out]; kernel_rfl)).mono ?_
  rintro x w10 ⟨rfl, hf10⟩
  have HG10 : Hid (StrSl w10 col9 (.slice ga gn gc) [idJ]) := HG9.out.fresh hf10
  have HM10 : Hid (StrSl w10 col9 (.slice ma mn mc) [idM]) := HM9.out.fresh hf10
  have HU10 := Lib.hid (HU.out.fresh hf10)
  clear hf10 HU HG9 HM9
  have HU := HU10
  clear HU10
  -- the ends
  dsimp only [codeErr]
  go_wp2_with fail
  have hc := endsD HU.out.is HU.out.std HU.out.d (by intro s hs; rw [List.mem_singleton.1 hs]; decide) (by decide)
  rw [show u4.ends = [idM] from rfl, sortedS_one] at hc
  have Hc := Lib.hid hc
  clear hc
  refine Hc.out.mono ?_
  rintro x w11 ⟨⟨na, nn, nc⟩, rfl, hn, hf11⟩
  obtain ⟨g1, g2, g3, _, _, _, g7⟩ := (StrSl.fresh' HG10.out hf11).open
  obtain ⟨m1, m2, m3, _, _, _, m7⟩ := (StrSl.fresh' HM10.out hf11).open
  obtain ⟨n1, n2, n3, _, _, _, n7⟩ := hn.open
  obtain ⟨gb, go, rfl, _, gcell⟩ := g7 0 (by decide)
  obtain ⟨mb, mo, rfl, _, mcell⟩ := m7 0 (by decide)
  obtain ⟨nb, no, rfl, _, ncell⟩ := n7 0 (by decide)
  simp only [sv, Value.slice.injEq, List.length_cons, List.length_nil, Nat.zero_add] at g3 m3 n3
  obtain ⟨rfl, rfl, rfl⟩ := g3
  obtain ⟨rfl, rfl, rfl⟩ := m3
  obtain ⟨rfl, rfl, rfl⟩ := n3
  simp only [Nat.add_zero, List.getElem_cons_zero] at gcell mcell ncell
  have HU11 := Lib.hid (HU.out.fresh hf11)
  have he := eql_err 19 19
  clear hf11 HU HG10 HM10 hn Hc g7 m7 n7
  have HU := HU11
  clear HU11
  have ht := topD HU.out.is HU.out.d
  rw [show u4.top = 2 from rfl] at ht
  have Ht := Lib.hid ht
  clear ht
  have hnw := nowD HU.out.is HU.out.std HU.out.d (fun _ => ⟨idM, ⟨evM, 2, [enC, enJ], [enC, enJ]⟩, rfl, by decide, by kernel_rfl, by decide⟩)
  rw [show u4.cur.length = 2 from by kernel_rfl] at hnw
  have Hnw := Lib.hid hnw
  clear hnw
  go_wp2_with fail
  refine Ht.out.mono ?_
  rintro x w12 ⟨rfl, rfl⟩
  go_wp2_with fail
  refine Hnw.out.mono ?_
  rintro x w13 ⟨⟨sa, sn, sc⟩, rfl, hsn, hstd, hk⟩
  dsimp only at hsn
  subst hsn
  have Hstd := Lib.hid hstd; have Hk := Lib.hid hk
  clear hstd hk
  go_wp2_with fail
  go_ret
  exact ⟨rfl, _, Hstd.out, HU.out.keep.trans (Hk.out.imp fun c hc => by unfold outC at hc; omega)⟩
end Go.Proofs.YtmjclmmiljlahaaGreat

set_option linter.unusedVariables false
set_option linter.unusedSimpArgs false
namespace Go.Proofs.YtmjclmmiljlahaaGreat
open Go.RowKit

/-- The IDs of the events that wait: m00, m01, .. -/
def nm (i : Nat) : ByteArray := ⟨#[109, UInt8.ofNat (48 + i / 10), UInt8.ofNat (48 + i % 10)]⟩
def pv (i : Nat) : ByteArray := match i with | 0 => idC | k + 1 => nm k
theorem nm_inj {i j : Nat} (hi : i < 70) (hj : j < 70) (h : nm i = nm j) : i = j := by
  have hall : ((List.range 70).all fun i => (List.range 70).all fun j => !decide (nm i = nm j) || decide (i = j)) = true := by kernel_rfl
  have h1 := List.all_eq_true.1 (List.all_eq_true.1 hall i (List.mem_range.2 hi)) j (List.mem_range.2 hj)
  simpa [h] using h1
theorem nm_ne_c (i : Nat) : nm i ≠ idC := fun h => by
  have := congrArg (fun s : ByteArray => s.data.size) h
  simp [nm] at this
theorem nm_lt {i : Nat} (hi : i < 69) : Op.bytesLess (nm i).toList (nm (i + 1)).toList = true := by
  have hall : ((List.range 69).all fun i => Op.bytesLess (nm i).toList (nm (i + 1)).toList) = true := by kernel_rfl
  exact List.all_eq_true.1 hall i (List.mem_range.2 hi)
theorem nm_ne {i : Nat} : nm i ≠ ⟨#[]⟩ := fun h => by
  have := congrArg (fun s : ByteArray => s.data.size) h
  simp [nm] at this

abbrev evS (i : Nat) : Ev := evN (nm i) (pv i) i
/-- k events wait. -/
def sd (k : Nat) : RmD := ⟨rX, (List.range k).map fun i => ⟨evS i, 1, [], []⟩, (List.range k).map nm, [], [], [], [], [], false, 0⟩
/-- The create has come; q of N events are rejected. -/
def nd (q i : Nat) : NdD := if i < q then ⟨evS i, 4, [enC], [enC]⟩ else ⟨evS i, 1, [], []⟩
def cd (N q : Nat) : RmD := ⟨rX, (List.range N).map (nd q) ++ [⟨evC, 2, [], [enC]⟩], ((List.range N).map nm).drop q, idC :: (List.range q).map nm, evC :: (List.range q).map evS, (List.range q).map nm, [idC], [], true, ((q - 1 : Nat) : Int)⟩

theorem nd_id (q i : Nat) : (nd q i).e = evS i := by unfold nd; split <;> rfl
theorem find_range {f : Nat → NdD} (hf : ∀ i, (f i).e.id = nm i) {N i : Nat} (hN : N ≤ 70) (hi : i < N) : ((List.range N).map f).find? (fun n => decide (n.e.id = nm i)) = some (f i) := by
  rw [List.find?_map]
  have : (List.range N).find? ((fun n => decide (n.e.id = nm i)) ∘ f) = some i := by
    rw [List.find?_range_eq_some]
    refine ⟨by simp [hf], List.mem_range.2 hi, fun j hj => ?_⟩
    simp only [Function.comp, hf, Bool.not_eq_true', decide_eq_false_iff_not]
    exact fun h => by have := nm_inj (by omega) (by omega) h; omega
  rw [this]; rfl
theorem find_range_none {f : Nat → NdD} (hf : ∀ i, (f i).e.id = nm i) {N : Nat} {id : ByteArray} (h : ∀ i, i < N → nm i ≠ id) : ((List.range N).map f).find? (fun n => decide (n.e.id = id)) = none := by
  rw [List.find?_eq_none]
  intro x hx
  obtain ⟨i, hi, rfl⟩ := List.mem_map.1 hx
  simp only [hf, decide_eq_true_eq]
  exact h i (List.mem_range.1 hi)

theorem sd_find_none {k : Nat} {id : ByteArray} (h : ∀ i, i < k → nm i ≠ id) : (sd k).find id = none := find_range_none (fun _ => rfl) h
theorem sd_find {k i : Nat} (hk : k ≤ 70) (hi : i < k) : (sd k).find (nm i) = some ⟨evS i, 1, [], []⟩ := find_range (f := fun i => ⟨evS i, 1, [], []⟩) (fun _ => rfl) hk hi
theorem cd_find {N q i : Nat} (hN : N ≤ 70) (hi : i < N) : (cd N q).find (nm i) = some (nd q i) := by
  unfold RmD.find cd
  dsimp only
  rw [List.find?_append, find_range (fun i => by rw [nd_id]; rfl) hN hi]; rfl
theorem cd_find_c (N q : Nat) : (cd N q).find idC = some ⟨evC, 2, [], [enC]⟩ := by
  unfold RmD.find cd
  dsimp only
  rw [List.find?_append, find_range_none (fun i => by rw [nd_id]; rfl) (fun i _ => nm_ne_c i)]
  rfl

/-- The next event that waits. -/
theorem sd_next (k : Nat) : { sd k with ns := (sd k).ns ++ [⟨evS k, 1, [], []⟩], staged := (sd k).staged ++ [nm k] } = sd (k + 1) := by
  unfold sd
  simp [List.range_succ]
theorem sd_ready {k : Nat} (hk : k < 70) (i : Nat) (hi : i < 70) (hik : k ≤ i) (p : ByteArray) (hp : p = pv k) (id : ByteArray) : (sd k).ready (evN id p i) = false := by
  subst hp
  unfold RmD.ready
  have : (evN id (pv k) i).prev ++ (evN id (pv k) i).auth = [pv k] := rfl
  rw [this]
  simp only [List.all_cons, List.all_nil, Bool.and_true, decide_eq_false_iff_not]
  unfold RmD.mark
  cases k with
  | zero => rw [show pv 0 = idC from rfl, sd_find_none (fun i hi => by omega)]; decide
  | succ k =>
    rw [show pv (k + 1) = nm k from rfl, sd_find (by omega) (by omega)]
    show ¬ (1 : Int) < 1
    omega
theorem sd_self (k i : Nat) (hk : k ≤ i) (hi : i < 70) : ((evN (nm i) (pv k) i).prev ++ (evN (nm i) (pv k) i).auth).any (fun x => decide (nm i = x)) = false := by
  have : (evN (nm i) (pv k) i).prev ++ (evN (nm i) (pv k) i).auth = [pv k] := rfl
  rw [this]
  simp only [List.any_cons, List.any_nil, Bool.or_false, decide_eq_false_iff_not]
  cases k with
  | zero => exact nm_ne_c i
  | succ k => exact fun h => by have := nm_inj hi (by omega) h; omega
theorem sd_fresh (k i : Nat) (hk : k ≤ i) (hi : i < 70) : (sd k).find (nm i) = none := sd_find_none fun j hj h => by have := nm_inj (by omega) hi h; omega

/-- The create, where N events wait. -/
theorem judge_create (N : Nat) : JudgeD { sd N with ns := (sd N).ns ++ [⟨evC, 1, [], []⟩] } idC (cd N 0) := by
  have hf : ∀ x : NdD, x.e = evC → ((sd N).ns ++ [x]).find? (fun n => decide (n.e.id = idC)) = some x := fun x hx => by
    rw [List.find?_append, show (sd N).ns = (List.range N).map fun i => ⟨evS i, 1, [], []⟩ from rfl, find_range_none (f := fun i => ⟨evS i, 1, [], []⟩) (fun _ => rfl) (fun i _ => nm_ne_c i)]
    simp [hx, evC]
  have hset : ∀ x y : NdD, x.e = evC → y.e = evC → RmD.setNd { sd N with ns := (sd N).ns ++ [x] } y = { sd N with ns := (sd N).ns ++ [y] } := fun x y hx hy => by
    unfold RmD.setNd
    simp only [List.map_append, List.map_cons, List.map_nil]
    congr 2
    · rw [show (sd N).ns = (List.range N).map fun i => (⟨evS i, 1, [], []⟩ : NdD) from rfl, List.map_map]
      refine List.map_congr_left fun i _ => ?_
      simp only [Function.comp]
      rw [if_neg]
      rw [hy]
      exact nm_ne_c i
    · rw [hx, hy]; simp
  have hx := hf ⟨evC, 1, [], []⟩ rfl
  have hm : MarkD (RmD.setNd { sd N with ns := (sd N).ns ++ [⟨evC, 1, [], []⟩] } ⟨evC, 1, [], []⟩) idC 2 _ :=
    markD_first (x := ⟨evC, 1, [], []⟩) (by rw [hset _ _ rfl rfl]; exact hx) (fun i hi => (List.not_mem_nil hi).elim) (checkD_c _) (fun y hy => (List.not_mem_nil hy).elim) (checkD_c _) rfl
  have h := judgeD_of (d := { sd N with ns := (sd N).ns ++ [⟨evC, 1, [], []⟩] }) (x := ⟨evC, 1, [], []⟩) hx [] (.inl ⟨rfl, rfl, rfl, rfl⟩) 2 (.inl rfl) _ hm (fun _ _ => .inl rfl) ⟨by show 0 < 4096; omega, by show 0 < 4096; omega, by show 0 < 4096; omega⟩
  rw [hset _ _ rfl rfl, hset _ _ rfl rfl] at h
  have e : RmD.close { sd N with ns := (sd N).ns ++ [⟨evC, 2, [], afterF evC 2 []⟩] } evC 2 = cd N 0 := by
    unfold RmD.close cd sd
    simp [nd, afterF, evC, putE, posOf]
  rw [← e]; exact h

theorem setNd_cd {N q : Nat} (hN : N ≤ 70) (hq : q < N) (x : NdD) (hx : x.e = evS q) (d : RmD) (hd : d.ns = (List.range N).map (nd q) ++ [⟨evC, 2, [], [enC]⟩]) :
    (d.setNd x).ns = (List.range N).map (fun i => if i = q then x else nd q i) ++ [⟨evC, 2, [], [enC]⟩] := by
  unfold RmD.setNd
  dsimp only
  rw [hd, List.map_append, List.map_map]
  congr 1
  · refine List.map_congr_left fun i hi => ?_
    simp only [Function.comp, nd_id, hx]
    by_cases h : i = q
    · subst h; simp
    · rw [if_neg h, if_neg]
      exact fun e => h (nm_inj (by have := List.mem_range.1 hi; omega) (by omega) e)
  · simp only [List.map_cons, List.map_nil]
    rw [if_neg]
    rw [hx]
    exact fun e => nm_ne_c q e.symm
/-- The q-th of those that waited. -/
theorem judge_each {N q : Nat} (hN : N ≤ 70) (hq : q < N) : JudgeD { cd N q with staged := ((List.range N).map nm).drop (q + 1) } (nm q) (cd N (q + 1)) := by
  obtain ⟨d, hd⟩ : ∃ d : RmD, d = { cd N q with staged := ((List.range N).map nm).drop (q + 1) } := ⟨_, rfl⟩
  rw [← hd]
  have hns : d.ns = (List.range N).map (nd q) ++ [⟨evC, 2, [], [enC]⟩] := by rw [hd]; rfl
  have hfd : ∀ i, i < N → d.find (nm i) = some (nd q i) := fun i hi => by rw [hd]; exact cd_find hN hi
  have hfc : d.find idC = some ⟨evC, 2, [], [enC]⟩ := by rw [hd]; exact cd_find_c N q
  have hx : d.find (nm q) = some ⟨evS q, 1, [], []⟩ := by rw [hfd q hq]; unfold nd; rw [if_neg (by omega)]
  have hpv : ∃ p np, (evS q).prev = [p] ∧ d.find p = some np ∧ np.al = [enC] := by
    cases q with
    | zero => exact ⟨idC, _, rfl, hfc, rfl⟩
    | succ k => exact ⟨nm k, _, rfl, hfd k (by omega), by unfold nd; rw [if_pos (by omega)]⟩
  have hx2 : (d.setNd ⟨evS q, 1, [enC], []⟩).find (nm q) = some ⟨evS q, 1, [enC], []⟩ := by
    unfold RmD.find
    rw [setNd_cd hN hq _ rfl d hns, List.find?_append, find_range (f := fun i => if i = q then ⟨evS q, 1, [enC], []⟩ else nd q i) (fun i => by
      by_cases h : i = q
      · subst h; simp; rfl
      · simp only [h, if_false]; rw [nd_id]; rfl) hN hq]
    simp
  have hm := markD_reject hx2 (fun i hi => (List.not_mem_nil hi).elim) 13 (checkD_n _ _ _) (by decide)
  have h : JudgeD d (nm q) (((d.setNd ⟨evS q, 1, [enC], []⟩).setNd ⟨evS q, 4, [enC], afterF (evS q) 4 [enC]⟩).close (evS q) 4) := judgeD_of hx [enC] (.inr hpv) 4 (.inr rfl) _ hm (fun h _ => by cases h) (by
    rw [hd]
    refine ⟨?_, ?_, ?_⟩
    · show (idC :: (List.range q).map nm).length < 4096
      simp; omega
    · show (evC :: (List.range q).map evS).length < 4096
      simp; omega
    · show ((List.range q).map nm).length < 4096
      simp; omega)
  rw [setNd_twice (x := ⟨evS q, 1, [enC], []⟩) (y := ⟨evS q, 4, [enC], afterF (evS q) 4 [enC]⟩) rfl] at h
  have e : (d.setNd ⟨evS q, 4, [enC], afterF (evS q) 4 [enC]⟩).close (evS q) 4 = cd N (q + 1) := by
    have haf : afterF (evS q) 4 [enC] = [enC] := if_neg (fun h => by cases h.1)
    rw [haf]
    have h1 := setNd_cd hN hq ⟨evS q, 4, [enC], [enC]⟩ rfl d hns
    have h2 : d.setNd ⟨evS q, 4, [enC], [enC]⟩ = { d with ns := (List.range N).map (fun i => if i = q then ⟨evS q, 4, [enC], [enC]⟩ else nd q i) ++ [⟨evC, 2, [], [enC]⟩] } := by rw [← h1]; rfl
    rw [h2, hd]
    unfold RmD.close cd
    rw [if_pos rfl]
    simp only [RmD.mk.injEq, true_and, and_true]
    refine ⟨?_, ?_, ?_, ?_, ?_⟩
    · congr 1
      refine List.map_congr_left fun i hi => ?_
      unfold nd
      by_cases h : i = q
      · subst h; rw [if_pos rfl, if_pos (by omega)]
      · rw [if_neg h]
        by_cases h3 : i < q
        · rw [if_pos h3, if_pos (by omega)]
        · rw [if_neg h3, if_neg (by omega)]
    · rw [List.range_succ]; simp; rfl
    · rw [List.range_succ]; simp
    · rw [List.range_succ]; simp; rfl
    · show max (((q - 1 : Nat) : Int)) (q : Int) = ((q + 1 - 1 : Nat) : Int)
      omega
  rw [← e]; exact h

theorem cd_ready {N q : Nat} (hN : N ≤ 70) (hq : q < N) : (cd N q).readyAt (nm q) = true := by
  unfold RmD.readyAt
  rw [cd_find hN hq]
  dsimp only
  rw [nd_id]
  unfold RmD.ready
  have : (evS q).prev ++ (evS q).auth = [pv q] := rfl
  rw [this]
  simp only [List.all_cons, List.all_nil, Bool.and_true, decide_eq_true_eq]
  unfold RmD.mark
  cases q with
  | zero => rw [show pv 0 = idC from rfl, cd_find_c]; show (1 : Int) < 2; omega
  | succ k =>
    rw [show pv (k + 1) = nm k from rfl, cd_find hN (by omega)]
    unfold nd
    rw [if_pos (by omega)]
    show (1 : Int) < 4
    omega
theorem cd_staged (N q : Nat) : (cd N q).staged = ((List.range N).map nm).drop q := rfl
theorem run_all {N : Nat} (hN : N ≤ 70) : ∀ (m q : Nat), q + m = N → TakeRun (cd N q) (((List.range N).map nm).drop q) (cd N N)
  | 0, q, h => by
    have : q = N := by omega
    subst this
    have hs : ((List.range q).map nm).drop q = [] := List.drop_of_length_le (by simp)
    rw [hs]
    exact .stop (staged_none (by rw [cd_staged, hs])) (by rw [cd_staged, hs]; rfl)
  | m + 1, q, h => by
    have hq : q < N := by omega
    have hdr : ((List.range N).map nm).drop q = nm q :: ((List.range N).map nm).drop (q + 1) := by
      rw [List.drop_eq_getElem_cons (by simpa using hq)]
      simp
    rw [hdr]
    refine .next (fun x hx => ?_) (by rw [cd_staged, hdr]) (cd_ready hN hq) (judge_each hN hq) (run_all hN m (q + 1) (by omega))
    rw [cd_staged] at hx
    obtain ⟨i, hi, rfl⟩ := List.mem_map.1 (List.mem_of_mem_drop hx)
    rw [cd_find hN (List.mem_range.1 hi)]; rfl
theorem cd_mark {N i : Nat} (hN : N ≤ 70) (hi : i < N) : (cd N N).mark (nm i) = 4 := by
  unfold RmD.mark
  rw [cd_find hN hi]
  unfold nd
  rw [if_pos hi]
theorem cd_mark_c (N : Nat) : (cd N N).mark idC = 2 := by
  unfold RmD.mark
  rw [cd_find_c]
theorem cd_done (N : Nat) : (cd N N).staged = [] := by
  rw [cd_staged]
  exact List.drop_of_length_le (by simp)
end Go.Proofs.YtmjclmmiljlahaaGreat
