/-
  Parts of a proof: the walk of DagStages. No condition.
-/
import Derived.Test.YtmjclmmiljlahaaGreatG9
import Derived.Laws.IdiomStrings
import Derived.IntWalk
import Derived.Deep.DeepCutAuto
import Derived.Deep.CutRange
set_option linter.unusedVariables false
set_option linter.unusedSimpArgs false
namespace Go.Proofs.YtmjclmmiljlahaaGreat
open Go.RowKit

/-- The room of DagStages. -/
structure SgS (w : World) (col : Col) (R : Nat) (W : World) (col' : Col) (r : Rm) (d : RmD) : Prop where
  is : RmIs W col' 0 R r
  std : Std W col'
  keep : Keep w col W col' (outC 0)
  d : r.d = d
theorem SgS.next {w : World} {col : Col} {R : Nat} {W W' : World} {col1 col2 : Col} {r r' : Rm} {d d' : RmD} (h : SgS w col R W col1 r d) (hj : JSt W col1 0 R W' col2 r') (hd : r'.d = d') : SgS w col R W' col2 r' d' :=
  ⟨hj.is, hj.std, h.keep.trans hj.keep, hd⟩
theorem SgS.fresh {w : World} {col : Col} {R : Nat} {W W' : World} {col1 : Col} {r : Rm} {d : RmD} (h : SgS w col R W col1 r d) (hf : Fresh W W') : SgS w col R W' col1 r d :=
  ⟨h.is.fresh hf, h.std.fresh hf, h.keep.trans (Keep.ofFresh hf), h.d⟩

def digA (q : Nat) : UInt8 := UInt8.ofNat (48 + q / 10)
def digB (q : Nat) : UInt8 := UInt8.ofNat (48 + q % 10)
theorem app_nm (q : Nat) : ((⟨#[109]⟩ : ByteArray) ++ ⟨#[digA q, digB q]⟩) = nm q := by
  apply ByteArray.ext
  rw [ByteArray.data_append]
  rfl
theorem conv_two {w : World} {q : Nat} (hq : q < 70) : (convert 29 9 (.slice (some ⟨w.heap.size, 0, none⟩) 2 2)).run Tryz.prog (w.alloc (.cells #[.int .u8 (48 + (q : Int) / 10), .int .u8 (48 + (q : Int) % 10)] 5)) =
    .ok (.string ⟨#[digA q, digB q]⟩) (w.alloc (.cells #[.int .u8 (48 + (q : Int) / 10), .int .u8 (48 + (q : Int) % 10)] 5)) := by
  refine run_convert_bytes_back _ 29 9 5 ⟨w.heap.size, 0, none⟩ 2 [digA q, digB q] Tryz.underlying29 Tryz.underlying5 Tryz.underlying9 (fun j hj => ?_)
  have hb := heap_alloc_new w (.cells #[.int .u8 (48 + (q : Int) / 10), .int .u8 (48 + (q : Int) % 10)] 5)
  have h2 : j < 2 := hj
  simp only [Addr.add_lit, World.cell?, hb, Nat.zero_add]
  match j, h2 with
  | 0, _ =>
    simp [digA]
    omega
  | 1, _ =>
    simp [digB]
    omega
  | j + 2, h => omega

theorem neq_err (n m : Int) (w : World) : (binOp .neq 25 (.iface 39 (.int .i64 n)) (.iface 39 (.int .i64 m))).run Tryz.prog w = .ok (.bool (!(n == m))) w := by kernel_rfl

set_option maxRecDepth 100000 in
set_option maxHeartbeats 6400000 in
theorem dagStages_any {w : World} {col : Col} (hcol : Std w col) (x : Int) (hx : -9223372036854775808 ≤ x) (hx2 : x ≤ 9223372036854775807) :
    Calls Tryz.prog 3 #[.int .i64 x] w fun y w' => y = .returned (.bool true) ∧ ∃ col', Std w' col' ∧ Keep w col w' col' (outC 0) := by
  go_enter Tryz.func3, Tryz.ntmps3
  go_wp2_with fail
  refine (up_any hcol).mono ?_
  rintro y w1 ⟨rfl, col1, hs1, hk1⟩
  have Hs1 := Lib.hid hs1; have Hk1 := Lib.hid hk1
  clear hs1 hk1
  go_wp2_with fail
  refine (new_any rX 0 (by decide) Hs1.out roomB_x).mono ?_
  rintro y w2 ⟨R, nmb, em, col2, rfl, hr2, hs2, hk2⟩
  have HU : Hid (SgS w col R w2 col2 (Rm.new rX nmb em) (sd 0)) := ⟨hr2, hs2, Hk1.out.trans (hk2.imp fun _ _ => trivial), rfl⟩
  clear hr2 hs2 hk2 Hs1 Hk1
  go_wp2_with fail
  refine (pick_any x hx hx2).mono ?_
  rintro y w3 ⟨n, rfl, hn, rfl⟩
  go_wp2_with fail
  go_loopw [7, 8] (fun p i wr => ∃ (q : Nat) (col' : Col) (r : Rm), q ≤ n ∧ i = .int .i64 q ∧ p = .string (pv (min q 64)) ∧ Hid (SgS w col R wr col' r (sd (min q 64)))) (fun _ i _ => n - (intOf i).toNat)
  case atStart => exact ⟨0, col2, _, Nat.zero_le _, rfl, rfl, HU.out⟩
  case round =>
    obtain ⟨q, col', r, hq, rfl, rfl, hu⟩ := hrel
    clear HU
    by_cases hlt : q < n
    · have hm : Hid (q < 70 ∧ (64 ≤ q → min q 64 = 64) ∧ (q < 64 → min q 64 = q)) := ⟨by omega, by omega, by omega⟩
      generalize min q 64 = s at *
      have hcv := conv_two (w := wr) (q := q) (by have := hm.out; omega)
      go_wp2_with (with_reducible refine stop_op (.build 38 _) rfl ?_)
      rw [app_nm]
      clear hcv
      refine Stand.go ?_
      refine wpList_build38 rfl _ rfl _ (by simp only [List.map_toArray, List.map_cons, List.map_nil]; rfl) ⟨evN (nm q) (pv s) q, ⟨some ⟨wr.heap.size + 1, 0, none⟩, 1, 1⟩, .nil, .nil, .nil, .nil, .nil⟩ (build_n (nm q) (pv s) q ⟨some ⟨wr.heap.size + 1, 0, none⟩, 1, 1⟩) ?_
      have hfx : Fresh wr ((wr.alloc (.cells #[.int .u8 (48 + (q : Int) / 10), .int .u8 (48 + (q : Int) % 10)] 5)).alloc (.cells #[.string (pv s)] 9)) := ((Fresh.rfl' wr).alloc (Nat.le_refl _) _).alloc (by simp) _
      have HU2 : Hid (SgS w col R ((wr.alloc (.cells #[.int .u8 (48 + (q : Int) / 10), .int .u8 (48 + (q : Int) % 10)] 5)).alloc (.cells #[.string (pv s)] 9)) col' r (sd s)) := hu.out.fresh hfx
      have HE2 : Hid (EvIs ((wr.alloc (.cells #[.int .u8 (48 + (q : Int) / 10), .int .u8 (48 + (q : Int) % 10)] 5)).alloc (.cells #[.string (pv s)] 9)) col' ⟨evN (nm q) (pv s) q, ⟨some ⟨wr.heap.size + 1, 0, none⟩, 1, 1⟩, .nil, .nil, .nil, .nil, .nil⟩) :=
        ⟨str_lit [pv s] (wr.heap.size + 1) (heap_alloc_at (by simp)) (hu.out.std.ok _ (by omega)) (by simp), str_nil _ _, jv_zero _ _, jv_zero _ _, by show 1 + 0 ≤ 4294967296; omega⟩
      clear hfx hu
      go_wp2_with fail
      have hq70 : q < 70 := by have := hm.out; omega
      by_cases h64 : 64 ≤ q
      · have hs : s = 64 := hm.out.2.1 h64
        subst hs
        refine (takeD_full HU2.out.is HU2.out.std HU2.out.d ⟨evN (nm q) (pv 64) q, ⟨some ⟨wr.heap.size + 1, 0, none⟩, 1, 1⟩, .nil, .nil, .nil, .nil, .nil⟩ HE2.out nm_ne rfl (sd_self 64 q h64 hq70) (sd_fresh 64 q h64 hq70) (sd_ready (by omega) q hq70 h64 _ rfl _) (by simp [sd]) (by simp [sd])).mono ?_
        rintro y w5 ⟨rfl, hf5⟩
        have HU5 := Lib.hid (HU2.out.fresh hf5)
        have hmk := markD HU5.out.is HU5.out.d (nm q)
        have hm0 : (sd 64).mark (nm q) = 0 := by unfold RmD.mark; rw [sd_fresh 64 q h64 hq70]
        rw [hm0] at hmk
        have Hmk := Lib.hid hmk
        have hne := neq_err 12 12
        clear hf5 HU2 HE2 hmk hm0
        dsimp only [codeErr]
        have h64' : (64 : Int) ≤ (q : Int) := by omega
        go_wp2_with fail
        refine Hmk.out.mono ?_
        rintro y w6 ⟨rfl, rfl⟩
        go_wp2_with fail
        go_roundw
        case rel => exact ⟨q + 1, col', r, by omega, by go_num, by rw [show min (q + 1) 64 = 64 by omega], by rw [show min (q + 1) 64 = 64 by omega]; exact HU5⟩
        case measure => simp [intOf]; omega
      · have hs : s = q := hm.out.2.2 (by omega)
        subst hs
        refine (takeD_staged HU2.out.is HU2.out.std HU2.out.d _ HE2.out nm_ne rfl (sd_self s s (Nat.le_refl _) hq70) (sd_fresh s s (Nat.le_refl _) hq70) (sd_ready hq70 s hq70 (Nat.le_refl _) _ rfl _) (by simp [sd]; omega) (by simp [sd]; omega)).mono ?_
        rintro y w5 ⟨rfl, col5, r5, hj5, hd5⟩
        have HU5 : Hid (SgS w col R w5 col5 r5 (sd (s + 1))) := HU2.out.next hj5 (hd5.trans (sd_next s))
        clear hj5 hd5 HU2 HE2
        have h64' : ¬ (64 : Int) ≤ (s : Int) := by omega
        go_wp2_with fail
        go_roundw
        case rel => exact ⟨s + 1, col5, r5, by omega, by go_num, by rw [show min (s + 1) 64 = s + 1 by omega]; rfl, by rw [show min (s + 1) 64 = s + 1 by omega]; exact HU5⟩
        case measure => simp [intOf]; omega
    · obtain rfl : q = n := by omega
      obtain ⟨N, hN⟩ : ∃ N, N = min q 64 := ⟨_, rfl⟩
      rw [← hN] at hu
      rw [← hN]
      have HN : Hid (N = min q 64) := hN
      have hN64 : N ≤ 64 := by omega
      clear hN
      go_wp2_with fail
      refine (content_any sRoomVersion s11 hu.out.std).mono ?_
      rintro y w4 ⟨bv, rfl, hj, hf4⟩
      have HU4 := Lib.hid (hu.out.fresh hf4)
      have HE4 : Hid (EvIs w4 col' ⟨evC, .nil, .nil, .nil, bv, .nil, .nil⟩) := ⟨str_nil _ _, str_nil _ _, hj, jv_zero _ _, Nat.zero_le _⟩
      clear hj hf4 hu
      go_wp2_with (with_reducible refine stop_op (.build 38 _) rfl ?_)
      refine Stand.go ?_
      refine wpList_build38 rfl _ rfl _ (by simp only [List.map_toArray, List.map_cons, List.map_nil]; rfl) ⟨evC, .nil, .nil, .nil, bv, .nil, .nil⟩ (build_c bv) ?_
      go_wp2_with fail
      have hc := takeD_judged HU4.out.is HU4.out.std HU4.out.d ⟨evC, .nil, .nil, .nil, bv, .nil, .nil⟩ HE4.out (by show idC ≠ _; decide) rfl rfl (sd_find_none (fun i _ => nm_ne_c i)) rfl (by simp [sd]; omega) (cd N 0) (cd N N) ((List.range N).map nm) (judge_create N) (by have := run_all (N := N) (by omega) N 0 (by omega); rwa [List.drop_zero] at this) (by simp; omega)
      rw [show (cd N N).mark (EV.d ⟨evC, .nil, .nil, .nil, bv, .nil, .nil⟩).id = 2 from cd_mark_c N] at hc
      have Hc := Lib.hid hc
      clear hc
      refine Hc.out.mono ?_
      rintro y w5 ⟨col5, r5, ⟨ma, mn, mc⟩, rfl, hj5, hd5, hm5⟩
      have HU5 : Hid (SgS w col R w5 col5 r5 (cd N N)) := HU4.out.next hj5 hd5
      have HM5 : Hid (StrSl w5 col5 (.slice ma mn mc) ((List.range N).map nm)) := hm5
      have hmn : mn = N := by
        obtain ⟨_, _, h3, _⟩ := hm5.open
        simp only [sv, Value.slice.injEq, List.length_map, List.length_range] at h3
        exact h3.2.1
      subst hmn
      clear hj5 hd5 hm5 HU4 HE4 Hc
      go_upto_if 88 with fail
      go_cut [6] from 87 to 88 (fun v wx => v = .int .i64 (mn : Int) ∧ wx = w5)
      case first =>
        by_cases h : (64 : Int) < (q : Int)
        · have hmn : (64 : Int) = (mn : Int) := by have := HN.out; omega
          have Hmn := Lib.hid hmn
          clear hmn
          go_wp2_with fail
          go_meet
          exact ⟨by rw [Hmn.out], rfl⟩
        · have hmn : (q : Int) = (mn : Int) := by have := HN.out; omega
          have Hmn := Lib.hid hmn
          clear hmn
          go_wp2_with fail
          go_meet
          exact ⟨by rw [Hmn.out], rfl⟩
      obtain ⟨rfl, rfl⟩ := hcut
      have hsn := staged_nil HU5.out.is (by rw [show r5.staged = r5.d.staged from rfl, HU5.out.d]; exact cd_done mn)
      have Hsn := Lib.hid hsn
      clear hsn
      go_wp2_with fail
      refine Hsn.out.mono ?_
      rintro y w6 ⟨sa, sc, rfl, hf6⟩
      have HU6 := Lib.hid (HU5.out.fresh hf6)
      have HM6 : Hid (StrSl w6 col5 (.slice ma mn mc) ((List.range mn).map nm)) := HM5.out.fresh' hf6
      clear hf6 HU5 HM5 Hsn
      go_wp2_with fail
      have hms : (cd mn mn).missing = [] := by unfold RmD.missing; rw [cd_done]; rfl
      have hc := missingD HU6.out.is HU6.out.std HU6.out.d (staged_none (cd_done mn)) (by rw [hms]; intro s hs; cases hs) (by rw [hms]; decide)
      rw [hms] at hc
      have Hc := Lib.hid hc
      clear hc hms
      refine Hc.out.mono ?_
      rintro y w7 ⟨⟨ga, gn, gc⟩, rfl, hg, hf7⟩
      have hgn : gn = 0 := by
        obtain ⟨_, _, h3, _⟩ := hg.open
        simp only [sv, Value.slice.injEq, sortedS_len] at h3
        exact h3.2.1
      subst hgn
      have HU7 := Lib.hid (HU6.out.fresh hf7)
      have HM7 : Hid (StrSl w7 col5 (.slice ma mn mc) ((List.range mn).map nm)) := HM6.out.fresh' hf7
      clear hg hf7 HU6 HM6 Hc
      go_wp2_with fail
      go_loopw [16] (fun i wr => ∃ p : Nat, p ≤ mn ∧ i = .int .i64 p ∧ Hid (SgS w col R wr col5 r5 (cd mn mn)) ∧ Hid (StrSl wr col5 (.slice ma mn mc) ((List.range mn).map nm))) (fun i _ => mn - (intOf i).toNat)
      case atStart => exact ⟨0, Nat.zero_le _, rfl, HU7.out, HM7.out⟩
      case round =>
        obtain ⟨p, hp, rfl, hu, hmr⟩ := hrel
        clear HU7 HM7
        obtain ⟨wo, rfl⟩ : ∃ wo : World, wo = wr := ⟨_, rfl⟩
        by_cases hlt : p < mn
        · obtain ⟨ao, cap, hv, hcp, hcm, _, hj⟩ := hmr.out.open
          simp only [Value.slice.injEq, List.length_map, List.length_range] at hv
          obtain ⟨rfl, _, rfl⟩ := hv
          simp only [List.length_map, List.length_range] at hcp
          obtain ⟨bb, off, rfl, _, hc1⟩ := hj p (by simpa using hlt)
          simp only [List.getElem_map, List.getElem_range] at hc1
          have hmk : Hid (∀ n, Calls Tryz.prog 9 #[.pointer (some ⟨R, 0, none⟩), .string (nm p)] (wo.drewN n) fun e w' => e = .returned (.int .i64 4) ∧ w' = wo.drewN n) := fun n => by
            have h1 := markD (hu.out.fresh (below_drewN (Fresh.rfl' wo) n)).is hu.out.d (nm p)
            rw [cd_mark (by omega) hlt] at h1
            exact h1.mono fun _ _ h => ⟨h.1, h.2.symm⟩
          cases p with
          | zero =>
            have hS : ∀ W, Fresh wo W → W.cell? ⟨bb, off, none⟩ = some (.string (nm 0)) := fun W hW => hW.keep hc1
            have HS := Lib.hid hS
            have hmk0 := hmk.out 1
            have HMk := Lib.hid hmk0
            clear hS hj hmk0
            go_wp2_with fail
            refine wp_region_held_drew (S := fun W => W.cell? ⟨bb, off, none⟩ = some (.string (nm 0))) (by kernel_rfl) ?_ (fun hHeld => ?_)
            · exact HS.out _ (Fresh.rfl' wo).drew
            refine wpAnyH_take (i := 0) (oi := { dst := some 118, op := .move (.tmp 4), type := 23, pos := "law.go:257", after := #[], guard := none }) (v := ?_) rfl (by kernel_rfl) (by kernel_rfl) (by kernel_rfl) (fun _ _ _ h => h) (Or.inl ⟨by rfl, ?_⟩) (by assumption) ?_
            rotate_left 1
            · intro W hSw
              have s1 := hSw
              go_simp
              try with_reducible rfl
            try simp only [Act.put, List.setIfInBounds_toArray, List.set_cons_zero, List.set_cons_succ]
            refine wpAnyH_take (i := 1) (oi := { dst := some 119, op := .move (.tmp 14), type := 30, pos := "law.go:257", after := #[], guard := none }) (v := ?_) rfl (by kernel_rfl) (by kernel_rfl) (by kernel_rfl) (fun _ _ _ h => h) (Or.inl ⟨by rfl, ?_⟩) (by assumption) ?_
            rotate_left 1
            · intro W hSw
              have s1 := hSw
              go_simp
              try with_reducible rfl
            try simp only [Act.put, List.setIfInBounds_toArray, List.set_cons_zero, List.set_cons_succ]
            refine wpAnyH_take (i := 2) (oi := { dst := some 120, op := .move (.tmp 16), type := 3, pos := "law.go:257", after := #[], guard := none }) (v := ?_) rfl (by kernel_rfl) (by kernel_rfl) (by kernel_rfl) (fun _ _ _ h => h) (Or.inl ⟨by rfl, ?_⟩) (by assumption) ?_
            rotate_left 1
            · intro W hSw
              have s1 := hSw
              go_simp
              try with_reducible rfl
            try simp only [Act.put, List.setIfInBounds_toArray, List.set_cons_zero, List.set_cons_succ]
            refine wpAnyH_take (i := 3) (oi := { dst := some 121, op := .indexAddr 30 (.tmp 119) (.tmp 120), type := 0, pos := "law.go:257", after := #[{ on := 1, ground := .data }, { on := 2, ground := .data }], guard := none }) (v := ?_) rfl (by kernel_rfl) (by kernel_rfl) (by kernel_rfl) (fun _ _ _ h => h) (Or.inl ⟨by rfl, ?_⟩) (by assumption) ?_
            rotate_left 1
            · intro W hSw
              have s1 := hSw
              go_simp
              try with_reducible rfl
            try simp only [Act.put, List.setIfInBounds_toArray, List.set_cons_zero, List.set_cons_succ]
            refine wpAnyH_take (i := 4) (oi := { dst := some 122, op := .load 9 (.tmp 121), type := 9, pos := "law.go:257", after := #[{ on := 3, ground := .data }], guard := none }) (v := ?_) rfl (by kernel_rfl) (by kernel_rfl) (by kernel_rfl) (fun _ _ _ h => h) (Or.inl ⟨by rfl, ?_⟩) (by assumption) ?_
            rotate_left 1
            · intro W hSw
              have s1 := hSw
              go_simp
              try with_reducible rfl
            try simp only [Act.put, List.setIfInBounds_toArray, List.set_cons_zero, List.set_cons_succ]
            refine wpAnyH_ready (rs := [5]) (by kernel_rfl) (by simp) ?_
            refine AllReadyH.cons (o := { dst := some 123, op := .call { callee := Go.Callee.value (.func 9), args := #[.tmp 118, .tmp 122], argTypes := #[23, 9] }, type := 3, pos := "law.go:257", after := #[{ on := 0, ground := .data }, { on := 4, ground := .data }], guard := none }) rfl (fun K hK => ?_) AllReadyH.nil
            go_simp
            go_at_call 9
            refine HMk.out.mono ?_
            rintro y w8 ⟨rfl, rfl⟩
            try dsimp only
            refine hK.out _ _ (HS.out _ (Fresh.rfl' wo).drew) (fun hHeld => ?_)
            clear hK K
            try simp only [Act.put, List.setIfInBounds_toArray, List.set_cons_zero, List.set_cons_succ]
            refine wpAnyH_take (i := 6) (oi := { dst := some 124, op := .binOp Go.BinOp.neq 3 (.tmp 123) (.const (Go.Value.int Go.IntKind.i64 4)) 3, type := 4, pos := "law.go:257", after := #[{ on := 5, ground := .data }], guard := none }) (v := ?_) rfl (by kernel_rfl) (by kernel_rfl) (by kernel_rfl) (fun _ _ _ h => h) (Or.inl ⟨by rfl, ?_⟩) (by assumption) ?_
            rotate_left 1
            · intro W hSw
              have s1 := hSw
              go_simp
              try with_reducible rfl
            try simp only [Act.put, List.setIfInBounds_toArray, List.set_cons_zero, List.set_cons_succ]
            refine wpAnyH_take (i := 7) (oi := { dst := some 125, op := .move (.tmp 124), type := 4, pos := "law.go:257", after := #[{ on := 6, ground := .data }, { on := 5, ground := .chain }], guard := none }) (v := ?_) rfl (by kernel_rfl) (by kernel_rfl) (by kernel_rfl) (fun _ _ _ h => h) (Or.inl ⟨by rfl, ?_⟩) (by assumption) ?_
            rotate_left 1
            · intro W hSw
              have s1 := hSw
              go_simp
              try with_reducible rfl
            try simp only [Act.put, List.setIfInBounds_toArray, List.set_cons_zero, List.set_cons_succ]
            refine wpAnyH_take (i := 8) (oi := { dst := some 126, op := .move (.tmp 16), type := 3, pos := "law.go:257", after := #[{ on := 7, ground := .guard }], guard := some (7, false) }) (v := ?_) rfl (by kernel_rfl) (by kernel_rfl) (by kernel_rfl) (fun _ _ _ h => h) (Or.inl ⟨by rfl, ?_⟩) (by assumption) ?_
            rotate_left 1
            · intro W hSw
              have s1 := hSw
              go_simp
              try with_reducible rfl
            try simp only [Act.put, List.setIfInBounds_toArray, List.set_cons_zero, List.set_cons_succ]
            refine wpAnyH_take (i := 9) (oi := { dst := some 127, op := .binOp Go.BinOp.gtr 3 (.tmp 126) (.const (Go.Value.int Go.IntKind.i64 0)) 3, type := 4, pos := "law.go:257", after := #[{ on := 8, ground := .data }, { on := 7, ground := .guard }], guard := some (7, false) }) (v := ?_) rfl (by kernel_rfl) (by kernel_rfl) (by kernel_rfl) (fun _ _ _ h => h) (Or.inl ⟨by rfl, ?_⟩) (by assumption) ?_
            rotate_left 1
            · intro W hSw
              have s1 := hSw
              go_simp
              try with_reducible rfl
            try simp only [Act.put, List.setIfInBounds_toArray, List.set_cons_zero, List.set_cons_succ]
            refine wpAnyH_take (i := 10) (oi := { dst := some 128, op := .move (.tmp 127), type := 4, pos := "law.go:257", after := #[{ on := 9, ground := .data }, { on := 7, ground := .chain }, { on := 7, ground := .guard }], guard := some (7, false) }) (v := ?_) rfl (by kernel_rfl) (by kernel_rfl) (by kernel_rfl) (fun _ _ _ h => h) (Or.inl ⟨by rfl, ?_⟩) (by assumption) ?_
            rotate_left 1
            · intro W hSw
              have s1 := hSw
              go_simp
              try with_reducible rfl
            try simp only [Act.put, List.setIfInBounds_toArray, List.set_cons_zero, List.set_cons_succ]
            refine wpAnyH_take (i := 11) (oi := { dst := some 129, op := .move (.tmp 14), type := 30, pos := "law.go:257", after := #[{ on := 10, ground := .guard }], guard := some (10, true) }) (v := undef) rfl (by kernel_rfl) (by kernel_rfl) (by kernel_rfl) (fun _ _ _ h => h) (Or.inr ⟨by rfl, rfl⟩) (by assumption) ?_
            try simp only [Act.put, List.setIfInBounds_toArray, List.set_cons_zero, List.set_cons_succ]
            refine wpAnyH_take (i := 12) (oi := { dst := some 130, op := .move (.tmp 16), type := 3, pos := "law.go:257", after := #[{ on := 10, ground := .guard }], guard := some (10, true) }) (v := undef) rfl (by kernel_rfl) (by kernel_rfl) (by kernel_rfl) (fun _ _ _ h => h) (Or.inr ⟨by rfl, rfl⟩) (by assumption) ?_
            try simp only [Act.put, List.setIfInBounds_toArray, List.set_cons_zero, List.set_cons_succ]
            refine wpAnyH_take (i := 13) (oi := { dst := some 131, op := .binOp Go.BinOp.sub 3 (.tmp 130) (.const (Go.Value.int Go.IntKind.i64 1)) 3, type := 3, pos := "law.go:257", after := #[{ on := 12, ground := .data }, { on := 10, ground := .guard }], guard := some (10, true) }) (v := undef) rfl (by kernel_rfl) (by kernel_rfl) (by kernel_rfl) (fun _ _ _ h => h) (Or.inr ⟨by rfl, rfl⟩) (by assumption) ?_
            try simp only [Act.put, List.setIfInBounds_toArray, List.set_cons_zero, List.set_cons_succ]
            refine wpAnyH_take (i := 14) (oi := { dst := some 132, op := .indexAddr 30 (.tmp 129) (.tmp 131), type := 0, pos := "law.go:257", after := #[{ on := 11, ground := .data }, { on := 13, ground := .data }, { on := 10, ground := .guard }], guard := some (10, true) }) (v := undef) rfl (by kernel_rfl) (by kernel_rfl) (by kernel_rfl) (fun _ _ _ h => h) (Or.inr ⟨by rfl, rfl⟩) (by assumption) ?_
            try simp only [Act.put, List.setIfInBounds_toArray, List.set_cons_zero, List.set_cons_succ]
            refine wpAnyH_take (i := 15) (oi := { dst := some 133, op := .load 9 (.tmp 132), type := 9, pos := "law.go:257", after := #[{ on := 14, ground := .data }, { on := 10, ground := .guard }], guard := some (10, true) }) (v := undef) rfl (by kernel_rfl) (by kernel_rfl) (by kernel_rfl) (fun _ _ _ h => h) (Or.inr ⟨by rfl, rfl⟩) (by assumption) ?_
            try simp only [Act.put, List.setIfInBounds_toArray, List.set_cons_zero, List.set_cons_succ]
            refine wpAnyH_take (i := 16) (oi := { dst := some 134, op := .move (.tmp 14), type := 30, pos := "law.go:257", after := #[{ on := 10, ground := .guard }], guard := some (10, true) }) (v := undef) rfl (by kernel_rfl) (by kernel_rfl) (by kernel_rfl) (fun _ _ _ h => h) (Or.inr ⟨by rfl, rfl⟩) (by assumption) ?_
            try simp only [Act.put, List.setIfInBounds_toArray, List.set_cons_zero, List.set_cons_succ]
            refine wpAnyH_take (i := 17) (oi := { dst := some 135, op := .move (.tmp 16), type := 3, pos := "law.go:257", after := #[{ on := 10, ground := .guard }], guard := some (10, true) }) (v := undef) rfl (by kernel_rfl) (by kernel_rfl) (by kernel_rfl) (fun _ _ _ h => h) (Or.inr ⟨by rfl, rfl⟩) (by assumption) ?_
            try simp only [Act.put, List.setIfInBounds_toArray, List.set_cons_zero, List.set_cons_succ]
            refine wpAnyH_take (i := 18) (oi := { dst := some 136, op := .indexAddr 30 (.tmp 134) (.tmp 135), type := 0, pos := "law.go:257", after := #[{ on := 16, ground := .data }, { on := 17, ground := .data }, { on := 10, ground := .guard }], guard := some (10, true) }) (v := undef) rfl (by kernel_rfl) (by kernel_rfl) (by kernel_rfl) (fun _ _ _ h => h) (Or.inr ⟨by rfl, rfl⟩) (by assumption) ?_
            try simp only [Act.put, List.setIfInBounds_toArray, List.set_cons_zero, List.set_cons_succ]
            refine wpAnyH_take (i := 19) (oi := { dst := some 137, op := .load 9 (.tmp 136), type := 9, pos := "law.go:257", after := #[{ on := 18, ground := .data }, { on := 10, ground := .guard }], guard := some (10, true) }) (v := undef) rfl (by kernel_rfl) (by kernel_rfl) (by kernel_rfl) (fun _ _ _ h => h) (Or.inr ⟨by rfl, rfl⟩) (by assumption) ?_
            try simp only [Act.put, List.setIfInBounds_toArray, List.set_cons_zero, List.set_cons_succ]
            refine wpAnyH_take (i := 20) (oi := { dst := some 138, op := .binOp Go.BinOp.geq 9 (.tmp 133) (.tmp 137) 9, type := 4, pos := "law.go:257", after := #[{ on := 15, ground := .data }, { on := 19, ground := .data }, { on := 10, ground := .guard }], guard := some (10, true) }) (v := undef) rfl (by kernel_rfl) (by kernel_rfl) (by kernel_rfl) (fun _ _ _ h => h) (Or.inr ⟨by rfl, rfl⟩) (by assumption) ?_
            try simp only [Act.put, List.setIfInBounds_toArray, List.set_cons_zero, List.set_cons_succ]
            refine wpAnyH_take (i := 21) (oi := { dst := some 139, op := .pick (.tmp 128) (.tmp 138) (.const (Go.Value.bool false)), type := 4, pos := "law.go:257", after := #[{ on := 10, ground := .data }, { on := 20, ground := .data }, { on := 7, ground := .guard }], guard := some (7, false) }) (v := ?_) rfl (by kernel_rfl) (by kernel_rfl) (by kernel_rfl) (fun _ _ _ h => h) (Or.inl ⟨by rfl, ?_⟩) (by assumption) ?_
            rotate_left 1
            · intro W hSw
              have s1 := hSw
              go_simp
              try with_reducible rfl
            try simp only [Act.put, List.setIfInBounds_toArray, List.set_cons_zero, List.set_cons_succ]
            refine wpAnyH_take (i := 22) (oi := { dst := some 140, op := .pick (.tmp 125) (.const (Go.Value.bool true)) (.tmp 139), type := 4, pos := "law.go:257", after := #[{ on := 7, ground := .data }, { on := 21, ground := .data }], guard := none }) (v := ?_) rfl (by kernel_rfl) (by kernel_rfl) (by kernel_rfl) (fun _ _ _ h => h) (Or.inl ⟨by rfl, ?_⟩) (by assumption) ?_
            rotate_left 1
            · intro W hSw
              have s1 := hSw
              go_simp
              try with_reducible rfl
            try simp only [Act.put, List.setIfInBounds_toArray, List.set_cons_zero, List.set_cons_succ]
            refine wpAnyH_done (by kernel_rfl) ?_ _
            have HU8 : Hid (SgS w col R wo.drew col5 r5 (cd mn mn)) := hu.out.fresh (Fresh.rfl' wo).drew
            have HM8 : Hid (StrSl wo.drew col5 (.slice (some ⟨bb, off, none⟩) mn mc) ((List.range mn).map nm)) := hmr.out.fresh' (Fresh.rfl' wo).drew
            clear hu hmr HS HMk hmk hc1
            go_wp2_with fail
            go_roundw
            case rel => exact ⟨1, hlt, rfl, HU8, HM8⟩
            case measure => simp [intOf]; omega
          | succ k =>
            obtain ⟨b2, o2, hb2, _, hc2⟩ := hj k (by simp; omega)
            obtain ⟨rfl, rfl⟩ : bb = b2 ∧ off = o2 := by simpa using hb2
            simp only [List.getElem_map, List.getElem_range] at hc2
            have hS : ∀ W, Fresh wo W → W.cell? ⟨bb, off + (k + 1), none⟩ = some (.string (nm (k + 1))) ∧ W.cell? ⟨bb, off + k, none⟩ = some (.string (nm k)) := fun W hW => ⟨hW.keep hc1, hW.keep hc2⟩
            have hless := nm_lt (i := k) (by omega)
            have hk0 : (0 : Int) ≤ (k : Int) + 1 := by omega
            have hk1 : (0 : Int) < (k : Int) + 1 := by omega
            have hk2 : (k : Int) ≤ 70 := by omega
            have hk3 : k < mn := by omega
            have hk4 : (0 : Int) ≤ (k : Int) := by omega
            have hkw : IntKind.i64.wrap (k : Int) = (k : Int) := IntWalk.i64_in _ (by omega)
            have HS := Lib.hid hS
            have hmk0 := hmk.out 1
            have HMk := Lib.hid hmk0
            clear hS hj hmk0
            go_wp2_with fail
            refine wp_region_held_drew (S := fun W => W.cell? ⟨bb, off + (k + 1), none⟩ = some (.string (nm (k + 1))) ∧ W.cell? ⟨bb, off + k, none⟩ = some (.string (nm k))) (by kernel_rfl) ?_ (fun hHeld => ?_)
            · exact HS.out _ (Fresh.rfl' wo).drew
            refine wpAnyH_take (i := 0) (oi := { dst := some 118, op := .move (.tmp 4), type := 23, pos := "law.go:257", after := #[], guard := none }) (v := ?_) rfl (by kernel_rfl) (by kernel_rfl) (by kernel_rfl) (fun _ _ _ h => h) (Or.inl ⟨by rfl, ?_⟩) (by assumption) ?_
            rotate_left 1
            · intro W hSw
              obtain ⟨s1, s2⟩ := hSw
              go_simp
              try with_reducible rfl
            try simp only [Act.put, List.setIfInBounds_toArray, List.set_cons_zero, List.set_cons_succ]
            refine wpAnyH_take (i := 1) (oi := { dst := some 119, op := .move (.tmp 14), type := 30, pos := "law.go:257", after := #[], guard := none }) (v := ?_) rfl (by kernel_rfl) (by kernel_rfl) (by kernel_rfl) (fun _ _ _ h => h) (Or.inl ⟨by rfl, ?_⟩) (by assumption) ?_
            rotate_left 1
            · intro W hSw
              obtain ⟨s1, s2⟩ := hSw
              go_simp
              try with_reducible rfl
            try simp only [Act.put, List.setIfInBounds_toArray, List.set_cons_zero, List.set_cons_succ]
            refine wpAnyH_take (i := 2) (oi := { dst := some 120, op := .move (.tmp 16), type := 3, pos := "law.go:257", after := #[], guard := none }) (v := ?_) rfl (by kernel_rfl) (by kernel_rfl) (by kernel_rfl) (fun _ _ _ h => h) (Or.inl ⟨by rfl, ?_⟩) (by assumption) ?_
            rotate_left 1
            · intro W hSw
              obtain ⟨s1, s2⟩ := hSw
              go_simp
              try with_reducible rfl
            try simp only [Act.put, List.setIfInBounds_toArray, List.set_cons_zero, List.set_cons_succ]
            refine wpAnyH_take (i := 3) (oi := { dst := some 121, op := .indexAddr 30 (.tmp 119) (.tmp 120), type := 0, pos := "law.go:257", after := #[{ on := 1, ground := .data }, { on := 2, ground := .data }], guard := none }) (v := ?_) rfl (by kernel_rfl) (by kernel_rfl) (by kernel_rfl) (fun _ _ _ h => h) (Or.inl ⟨by rfl, ?_⟩) (by assumption) ?_
            rotate_left 1
            · intro W hSw
              obtain ⟨s1, s2⟩ := hSw
              go_simp
              try with_reducible rfl
            try simp only [Act.put, List.setIfInBounds_toArray, List.set_cons_zero, List.set_cons_succ]
            refine wpAnyH_take (i := 4) (oi := { dst := some 122, op := .load 9 (.tmp 121), type := 9, pos := "law.go:257", after := #[{ on := 3, ground := .data }], guard := none }) (v := ?_) rfl (by kernel_rfl) (by kernel_rfl) (by kernel_rfl) (fun _ _ _ h => h) (Or.inl ⟨by rfl, ?_⟩) (by assumption) ?_
            rotate_left 1
            · intro W hSw
              obtain ⟨s1, s2⟩ := hSw
              go_simp
              try with_reducible rfl
            try simp only [Act.put, List.setIfInBounds_toArray, List.set_cons_zero, List.set_cons_succ]
            refine wpAnyH_ready (rs := [5]) (by kernel_rfl) (by simp) ?_
            refine AllReadyH.cons (o := { dst := some 123, op := .call { callee := Go.Callee.value (.func 9), args := #[.tmp 118, .tmp 122], argTypes := #[23, 9] }, type := 3, pos := "law.go:257", after := #[{ on := 0, ground := .data }, { on := 4, ground := .data }], guard := none }) rfl (fun K hK => ?_) AllReadyH.nil
            go_simp
            go_at_call 9
            refine HMk.out.mono ?_
            rintro y w8 ⟨rfl, rfl⟩
            try dsimp only
            refine hK.out _ _ (HS.out _ (Fresh.rfl' wo).drew) (fun hHeld => ?_)
            clear hK K
            try simp only [Act.put, List.setIfInBounds_toArray, List.set_cons_zero, List.set_cons_succ]
            refine wpAnyH_take (i := 6) (oi := { dst := some 124, op := .binOp Go.BinOp.neq 3 (.tmp 123) (.const (Go.Value.int Go.IntKind.i64 4)) 3, type := 4, pos := "law.go:257", after := #[{ on := 5, ground := .data }], guard := none }) (v := ?_) rfl (by kernel_rfl) (by kernel_rfl) (by kernel_rfl) (fun _ _ _ h => h) (Or.inl ⟨by rfl, ?_⟩) (by assumption) ?_
            rotate_left 1
            · intro W hSw
              obtain ⟨s1, s2⟩ := hSw
              go_simp
              try with_reducible rfl
            try simp only [Act.put, List.setIfInBounds_toArray, List.set_cons_zero, List.set_cons_succ]
            refine wpAnyH_take (i := 7) (oi := { dst := some 125, op := .move (.tmp 124), type := 4, pos := "law.go:257", after := #[{ on := 6, ground := .data }, { on := 5, ground := .chain }], guard := none }) (v := ?_) rfl (by kernel_rfl) (by kernel_rfl) (by kernel_rfl) (fun _ _ _ h => h) (Or.inl ⟨by rfl, ?_⟩) (by assumption) ?_
            rotate_left 1
            · intro W hSw
              obtain ⟨s1, s2⟩ := hSw
              go_simp
              try with_reducible rfl
            try simp only [Act.put, List.setIfInBounds_toArray, List.set_cons_zero, List.set_cons_succ]
            refine wpAnyH_take (i := 8) (oi := { dst := some 126, op := .move (.tmp 16), type := 3, pos := "law.go:257", after := #[{ on := 7, ground := .guard }], guard := some (7, false) }) (v := ?_) rfl (by kernel_rfl) (by kernel_rfl) (by kernel_rfl) (fun _ _ _ h => h) (Or.inl ⟨by rfl, ?_⟩) (by assumption) ?_
            rotate_left 1
            · intro W hSw
              obtain ⟨s1, s2⟩ := hSw
              go_simp
              try with_reducible rfl
            try simp only [Act.put, List.setIfInBounds_toArray, List.set_cons_zero, List.set_cons_succ]
            refine wpAnyH_take (i := 9) (oi := { dst := some 127, op := .binOp Go.BinOp.gtr 3 (.tmp 126) (.const (Go.Value.int Go.IntKind.i64 0)) 3, type := 4, pos := "law.go:257", after := #[{ on := 8, ground := .data }, { on := 7, ground := .guard }], guard := some (7, false) }) (v := ?_) rfl (by kernel_rfl) (by kernel_rfl) (by kernel_rfl) (fun _ _ _ h => h) (Or.inl ⟨by rfl, ?_⟩) (by assumption) ?_
            rotate_left 1
            · intro W hSw
              obtain ⟨s1, s2⟩ := hSw
              go_simp
              try with_reducible rfl
            try simp only [Act.put, List.setIfInBounds_toArray, List.set_cons_zero, List.set_cons_succ]
            refine wpAnyH_take (i := 10) (oi := { dst := some 128, op := .move (.tmp 127), type := 4, pos := "law.go:257", after := #[{ on := 9, ground := .data }, { on := 7, ground := .chain }, { on := 7, ground := .guard }], guard := some (7, false) }) (v := ?_) rfl (by kernel_rfl) (by kernel_rfl) (by kernel_rfl) (fun _ _ _ h => h) (Or.inl ⟨by rfl, ?_⟩) (by assumption) ?_
            rotate_left 1
            · intro W hSw
              obtain ⟨s1, s2⟩ := hSw
              go_simp
              try with_reducible rfl
            try simp only [Act.put, List.setIfInBounds_toArray, List.set_cons_zero, List.set_cons_succ]
            refine wpAnyH_take (i := 11) (oi := { dst := some 129, op := .move (.tmp 14), type := 30, pos := "law.go:257", after := #[{ on := 10, ground := .guard }], guard := some (10, true) }) (v := ?_) rfl (by kernel_rfl) (by kernel_rfl) (by kernel_rfl) (fun _ _ _ h => h) (Or.inl ⟨by rfl, ?_⟩) (by assumption) ?_
            rotate_left 1
            · intro W hSw
              obtain ⟨s1, s2⟩ := hSw
              go_simp
              try with_reducible rfl
            try simp only [Act.put, List.setIfInBounds_toArray, List.set_cons_zero, List.set_cons_succ]
            refine wpAnyH_take (i := 12) (oi := { dst := some 130, op := .move (.tmp 16), type := 3, pos := "law.go:257", after := #[{ on := 10, ground := .guard }], guard := some (10, true) }) (v := ?_) rfl (by kernel_rfl) (by kernel_rfl) (by kernel_rfl) (fun _ _ _ h => h) (Or.inl ⟨by rfl, ?_⟩) (by assumption) ?_
            rotate_left 1
            · intro W hSw
              obtain ⟨s1, s2⟩ := hSw
              go_simp
              try with_reducible rfl
            try simp only [Act.put, List.setIfInBounds_toArray, List.set_cons_zero, List.set_cons_succ]
            refine wpAnyH_take (i := 13) (oi := { dst := some 131, op := .binOp Go.BinOp.sub 3 (.tmp 130) (.const (Go.Value.int Go.IntKind.i64 1)) 3, type := 3, pos := "law.go:257", after := #[{ on := 12, ground := .data }, { on := 10, ground := .guard }], guard := some (10, true) }) (v := ?_) rfl (by kernel_rfl) (by kernel_rfl) (by kernel_rfl) (fun _ _ _ h => h) (Or.inl ⟨by rfl, ?_⟩) (by assumption) ?_
            rotate_left 1
            · intro W hSw
              obtain ⟨s1, s2⟩ := hSw
              go_simp
              try with_reducible rfl
            try simp only [Act.put, List.setIfInBounds_toArray, List.set_cons_zero, List.set_cons_succ]
            refine wpAnyH_take (i := 14) (oi := { dst := some 132, op := .indexAddr 30 (.tmp 129) (.tmp 131), type := 0, pos := "law.go:257", after := #[{ on := 11, ground := .data }, { on := 13, ground := .data }, { on := 10, ground := .guard }], guard := some (10, true) }) (v := ?_) rfl (by kernel_rfl) (by kernel_rfl) (by kernel_rfl) (fun _ _ _ h => h) (Or.inl ⟨by rfl, ?_⟩) (by assumption) ?_
            rotate_left 1
            · intro W hSw
              obtain ⟨s1, s2⟩ := hSw
              go_simp
              try with_reducible rfl
            try simp only [Act.put, List.setIfInBounds_toArray, List.set_cons_zero, List.set_cons_succ]
            refine wpAnyH_take (i := 15) (oi := { dst := some 133, op := .load 9 (.tmp 132), type := 9, pos := "law.go:257", after := #[{ on := 14, ground := .data }, { on := 10, ground := .guard }], guard := some (10, true) }) (v := ?_) rfl (by kernel_rfl) (by kernel_rfl) (by kernel_rfl) (fun _ _ _ h => h) (Or.inl ⟨by rfl, ?_⟩) (by assumption) ?_
            rotate_left 1
            · intro W hSw
              obtain ⟨s1, s2⟩ := hSw
              go_simp
              try with_reducible rfl
            try simp only [Act.put, List.setIfInBounds_toArray, List.set_cons_zero, List.set_cons_succ]
            refine wpAnyH_take (i := 16) (oi := { dst := some 134, op := .move (.tmp 14), type := 30, pos := "law.go:257", after := #[{ on := 10, ground := .guard }], guard := some (10, true) }) (v := ?_) rfl (by kernel_rfl) (by kernel_rfl) (by kernel_rfl) (fun _ _ _ h => h) (Or.inl ⟨by rfl, ?_⟩) (by assumption) ?_
            rotate_left 1
            · intro W hSw
              obtain ⟨s1, s2⟩ := hSw
              go_simp
              try with_reducible rfl
            try simp only [Act.put, List.setIfInBounds_toArray, List.set_cons_zero, List.set_cons_succ]
            refine wpAnyH_take (i := 17) (oi := { dst := some 135, op := .move (.tmp 16), type := 3, pos := "law.go:257", after := #[{ on := 10, ground := .guard }], guard := some (10, true) }) (v := ?_) rfl (by kernel_rfl) (by kernel_rfl) (by kernel_rfl) (fun _ _ _ h => h) (Or.inl ⟨by rfl, ?_⟩) (by assumption) ?_
            rotate_left 1
            · intro W hSw
              obtain ⟨s1, s2⟩ := hSw
              go_simp
              try with_reducible rfl
            try simp only [Act.put, List.setIfInBounds_toArray, List.set_cons_zero, List.set_cons_succ]
            refine wpAnyH_take (i := 18) (oi := { dst := some 136, op := .indexAddr 30 (.tmp 134) (.tmp 135), type := 0, pos := "law.go:257", after := #[{ on := 16, ground := .data }, { on := 17, ground := .data }, { on := 10, ground := .guard }], guard := some (10, true) }) (v := ?_) rfl (by kernel_rfl) (by kernel_rfl) (by kernel_rfl) (fun _ _ _ h => h) (Or.inl ⟨by rfl, ?_⟩) (by assumption) ?_
            rotate_left 1
            · intro W hSw
              obtain ⟨s1, s2⟩ := hSw
              go_simp
              try with_reducible rfl
            try simp only [Act.put, List.setIfInBounds_toArray, List.set_cons_zero, List.set_cons_succ]
            refine wpAnyH_take (i := 19) (oi := { dst := some 137, op := .load 9 (.tmp 136), type := 9, pos := "law.go:257", after := #[{ on := 18, ground := .data }, { on := 10, ground := .guard }], guard := some (10, true) }) (v := ?_) rfl (by kernel_rfl) (by kernel_rfl) (by kernel_rfl) (fun _ _ _ h => h) (Or.inl ⟨by rfl, ?_⟩) (by assumption) ?_
            rotate_left 1
            · intro W hSw
              obtain ⟨s1, s2⟩ := hSw
              go_simp
              try with_reducible rfl
            try simp only [Act.put, List.setIfInBounds_toArray, List.set_cons_zero, List.set_cons_succ]
            refine wpAnyH_take (i := 20) (oi := { dst := some 138, op := .binOp Go.BinOp.geq 9 (.tmp 133) (.tmp 137) 9, type := 4, pos := "law.go:257", after := #[{ on := 15, ground := .data }, { on := 19, ground := .data }, { on := 10, ground := .guard }], guard := some (10, true) }) (v := ?_) rfl (by kernel_rfl) (by kernel_rfl) (by kernel_rfl) (fun _ _ _ h => h) (Or.inl ⟨by rfl, ?_⟩) (by assumption) ?_
            rotate_left 1
            · intro W hSw
              obtain ⟨s1, s2⟩ := hSw
              go_simp
              try with_reducible rfl
            try simp only [Act.put, List.setIfInBounds_toArray, List.set_cons_zero, List.set_cons_succ]
            refine wpAnyH_take (i := 21) (oi := { dst := some 139, op := .pick (.tmp 128) (.tmp 138) (.const (Go.Value.bool false)), type := 4, pos := "law.go:257", after := #[{ on := 10, ground := .data }, { on := 20, ground := .data }, { on := 7, ground := .guard }], guard := some (7, false) }) (v := ?_) rfl (by kernel_rfl) (by kernel_rfl) (by kernel_rfl) (fun _ _ _ h => h) (Or.inl ⟨by rfl, ?_⟩) (by assumption) ?_
            rotate_left 1
            · intro W hSw
              obtain ⟨s1, s2⟩ := hSw
              go_simp
              try with_reducible rfl
            try simp only [Act.put, List.setIfInBounds_toArray, List.set_cons_zero, List.set_cons_succ]
            refine wpAnyH_take (i := 22) (oi := { dst := some 140, op := .pick (.tmp 125) (.const (Go.Value.bool true)) (.tmp 139), type := 4, pos := "law.go:257", after := #[{ on := 7, ground := .data }, { on := 21, ground := .data }], guard := none }) (v := ?_) rfl (by kernel_rfl) (by kernel_rfl) (by kernel_rfl) (fun _ _ _ h => h) (Or.inl ⟨by rfl, ?_⟩) (by assumption) ?_
            rotate_left 1
            · intro W hSw
              obtain ⟨s1, s2⟩ := hSw
              go_simp
              try with_reducible rfl
            try simp only [Act.put, List.setIfInBounds_toArray, List.set_cons_zero, List.set_cons_succ]
            refine wpAnyH_done (by kernel_rfl) ?_ _
            have HU8 : Hid (SgS w col R wo.drew col5 r5 (cd mn mn)) := hu.out.fresh (Fresh.rfl' wo).drew
            have HM8 : Hid (StrSl wo.drew col5 (.slice (some ⟨bb, off, none⟩) mn mc) ((List.range mn).map nm)) := hmr.out.fresh' (Fresh.rfl' wo).drew
            clear hu hmr HS HMk hmk hc1 hkw hless hk0 hk1 hk2 hk4 hc2
            go_wp2_with fail
            go_roundw
            case rel => exact ⟨k + 1 + 1, hlt, by go_num, HU8, HM8⟩
            case measure => simp [intOf]; omega
        · obtain rfl : p = mn := by omega
          go_wp2_with fail
          go_ret
          exact ⟨rfl, col5, hu.out.std, hu.out.keep⟩
end Go.Proofs.YtmjclmmiljlahaaGreat
