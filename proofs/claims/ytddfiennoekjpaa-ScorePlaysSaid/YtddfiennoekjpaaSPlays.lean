/-
  The walk of ScorePlays.
-/
import Derived.Test.YtddfiennoekjpaaSRefN
import Derived.Test.YtddfiennoekjpaaSRefQ
import Derived.Test.YtddfiennoekjpaaSRefS
namespace Go.Proofs.Ytddfiennoekjpaa
open Go.RowKit Go.Maps
attribute [local go_sem] Oper.semAt_some
attribute [local go_sem ↓] Go.wp_at_zero Go.wp_at_succ

theorem build_peerJ (p l : Int) (w : World) : Sem.run Try.prog (Instr.build 31 #[(0, .int .i64 p), (1, .int .i64 l)]) w = .ok (.agg #[.int .i64 p, .int .i64 l]) w := by kernel_rfl
theorem ev_loadT {w : World} {d : Option Tmp} {ty : TypeId} {pos : String} {af : Array Edge} {gd : Option (Nat × Bool)} {ev : Operand → Value} {x : Operand} (b : Nat) (hx : ev x = .pointer (some ⟨b, 0, none⟩)) (cs : Array Value) (hs : cs.size = 3) (t : Nat) (fr : Nat × Nat) (hc : w.heap[b]? = some (.cells cs t fr)) :
    (execOp ev ⟨d, .load 42 x, ty, pos, af, gd⟩).run Try.prog w = .ok (.value (.agg cs)) w := by
  simp only [execOp, hx, Instr.loadAt, Instr.sureAddr, Sem.run_bind, Sem.run_pure, Result.andThen_ok]
  rw [run_loadVar_row w b t 42 cs fr _ hc Try.underlying42 rfl (by rw [hs]; exact info_tab)]
  rfl
def actA (x : ActN) : Array Value := #[.int .i64 x.kind, .int .i64 x.peer, .int .i64 x.n, .int .i64 x.left]
theorem alloc_act (w : World) : Sem.run Try.prog (Instr.alloc 46 true (.tuple #[])) w = .ok (.pointer (some ⟨w.heap.size, 0, none⟩)) (w.alloc (.cells (actA ⟨0, 0, 0, 0⟩) 46)) := by kernel_rfl
theorem info_act (x : ActN) : (Try.prog.info? 46).map (·.size) = some (actA x).size := by kernel_rfl
theorem one_act (x : ActN) : (actA x).all (·.oneCell') = true := by simp [actA]; exact ⟨rfl, rfl, rfl, rfl⟩
theorem build_peer0 (w : World) : Sem.run Try.prog (Instr.build 31 #[]) w = .ok (.agg #[.int .i64 0, .int .i64 0]) w := by kernel_rfl
theorem qcells {w6 : World} {Q : Nat} {x : ActN} {zp zn zl : Int} (h1 : zp = x.peer) (h2 : zn = x.n) (h3 : zl = x.left) (_ : w6.heap[Q]? = some (.cells (actA x) 46 (0, 0))) : ∀ w : World, w.heap[Q]? = some (.cells (actA x) 46 (0, 0)) → w.cell? ⟨Q, 1, none⟩ = some (.int .i64 zp) ∧ w.cell? ⟨Q, 2, none⟩ = some (.int .i64 zn) ∧ w.cell? ⟨Q, 3, none⟩ = some (.int .i64 zl) := by
  intro w k
  subst h1
  subst h2
  subst h3
  refine ⟨?_, ?_, ?_⟩ <;> (rw [cell_of_row _ _ _ _ _ _ k]; rfl)
theorem rg_ne {w7 : World} {g g8 P : Nat} (h : g8 = g ∨ w7.heap.size ≤ g8) (hg : g ≠ P) (hP : P < w7.heap.size) : g8 ≠ P := by
  rcases h with h | h
  · rw [h]; exact hg
  · omega
set_option maxRecDepth 100000 in
set_option maxHeartbeats 16000000 in
theorem plays_any (z0 z1 z2 : Int) (v3 : Value) (xs : List ActN) (w : World) (hv : ActRow w v3 xs) :
    Calls Try.prog 5 #[.int .i64 z0, .int .i64 z1, .int .i64 z2, v3] w fun e w' => e = .returned (.bool true) ∧ Below w.heap.size w w' := by
  refine calls_of_wp Try.func5 rfl ?_
  simp only [Try.ntmps5, List.size_toArray, List.length_cons, List.length_nil, Nat.reduceAdd, Nat.reduceSub, Array.replicate_succ, Array.replicate_zero, List.push_toArray, List.append_toArray, List.nil_append, List.cons_append]
  obtain ⟨a, c, rfl, hc1, hc2, hr, hcell⟩ := hv
  clear hc1 hc2
  obtain ⟨m, hm⟩ : ∃ m, m = xs.length := ⟨_, rfl⟩
  rw [← hm]
  have HM := Lib.hid hm
  have HR := Lib.hid hr
  have HCL := Lib.hid hcell
  clear hm hr hcell
  go_upto_region 4 with (go_at_call 7; refine (awake_any _).mono ?_; rintro e w1 ⟨rfl, hB1⟩)
  have HB1 := Lib.hid hB1
  clear hB1
  by_cases hfit : fits z0 z1 z2 = true
  · have hf := hfit
    simp only [fits, Bool.and_eq_true, decide_eq_true_iff] at hf
    obtain ⟨many, rfl⟩ : ∃ n : Nat, z0 = (n : Int) := ⟨z0.toNat, by omega⟩
    obtain ⟨limit, rfl⟩ : ∃ n : Nat, z1 = (n : Int) := ⟨z1.toNat, by omega⟩
    obtain ⟨hold, rfl⟩ : ∃ n : Nat, z2 = (n : Int) := ⟨z2.toNat, by omega⟩
    have HFIT := Lib.hid hfit
    have HMM := Lib.hid (show 1 ≤ many ∧ many ≤ 64 ∧ 1 ≤ limit ∧ limit ≤ 1000 ∧ hold ≤ 1000 from ⟨by omega, by omega, by omega, by omega, by omega⟩)
    clear hfit hf
    go_upto_region 6 with (first
      | (go_at_call 8; refine (new_ok many limit hold _ HFIT.out).mono ?_; rintro e w2 ⟨tb, mb, rfl, hT2, htb, hmb, hB2⟩)
      | (go_at_call 14; refine (rnew_ok many limit hold _ HFIT.out).mono ?_; rintro e w3 ⟨g0, c', rfl, hR3, hB3⟩)
      | ((with_reducible refine at_alloc 42 ?_); refine wpList_alloc_zero rfl 42 rfl _ alloc_tab ?_)
      | ((with_reducible refine at_store 42 ?_); refine wpList_store_row rfl 42 _ _ rfl _ (tvalC limit hold g0 c' many) rfl rfl _ _ (heap_alloc_new _ _) info_tab rfl (one_tab _ _ _ _ _) ?_))
    have hB4 : Below w3.heap.size w3 ((w3.alloc (.cells tzeroC 42)).setRow w3.heap.size (tvalC limit hold g0 c' many)) := below_setRow ((Below.refl _ w3).alloc (Nat.le_refl _) _) (Nat.le_refl _) _
    have k4 := heap_setRow (heap_alloc_new w3 (.cells tzeroC 42)) (tvalC limit hold g0 c' many)
    generalize (w3.alloc (.cells tzeroC 42)).setRow w3.heap.size (tvalC limit hold g0 c' many) = w4 at *
    obtain ⟨P, hP⟩ : ∃ P, P = w3.heap.size := ⟨_, rfl⟩
    have hT3 := hT2.later hB3
    have HTP := Lib.hid (show tb < P ∧ mb < P from ⟨by rw [hP]; exact hT3.tlt, by rw [hP]; exact hT3.mlt⟩)
    have HGP : Hid (g0 ≠ P) := by show g0 ≠ P; have := hR3.lt; omega
    rw [← hP] at k4 ⊢
    have HT4 := Lib.hid (hT3.later hB4)
    have HR4 := Lib.hid (hR3.later hB4)
    have K4 := Lib.hid k4
    have hBx := hB2.trans (hB3.mono hB2.size)
    have hBy := hBx.trans (hB4.mono hBx.size)
    have HMB : Hid (w.heap.size ≤ mb) := Nat.le_trans HB1.out.size hmb
    have HPW : Hid (w.heap.size ≤ P) := by rw [hP]; exact Nat.le_trans HB1.out.size hBx.size
    have HB4 := Lib.hid (HB1.out.trans (hBy.mono HB1.out.size))
    clear hT2 htb hmb hB2 hR3 hB3 hB4 k4 hP hT3 hBx hBy HB1
    go_wp2
    go_loopw [14, 15, 16, 17, 18, 19, 20, 21, 22, 23, 24, 25, 26, 27, 28, 29] (fun iv _ _ _ _ _ _ _ _ _ _ _ _ _ _ _ wr => ∃ (i : Nat) (f : Nat → Nat × Nat) (g ca : Nat), i ≤ m ∧ i ≤ 60 ∧ iv = .int .i64 (i : Int) ∧ Tab wr tb mb many limit hold f (64 * i) ∧ Fine limit hold f ∧ RTab wr g ca many f ∧ g ≠ P ∧ wr.heap[P]? = some (.cells (tvalC limit hold g ca many) 42 (0, 0)) ∧ Below w.heap.size w wr) (fun iv _ _ _ _ _ _ _ _ _ _ _ _ _ _ _ _ => m - (intOf iv).toNat)
    case atStart => exact ⟨0, _, g0, c', Nat.zero_le _, Nat.zero_le _, rfl, HT4.out, fine_zero HMM.out.2.2.1, HR4.out, HGP.out, K4.out, HB4.out⟩
    case round =>
      clear HT4 HR4 HGP K4 HB4
      obtain ⟨i, f, g, ca, him, hi60, rfl, hT, hF, hRt, hgP, hK, hB⟩ := hrel
      have i0 : (0 : Int) ≤ (i : Int) := by omega
      by_cases hin : i < m
      · have i1 : (i : Int) < (m : Int) := by omega
        by_cases hi6 : i < 60
        · have i6 : (i : Int) < 60 := by omega
          have hiK : i < xs.length := by rw [← HM.out]; exact hin
          obtain ⟨x, hx⟩ : ∃ x, xs[i]? = some x := ⟨_, List.getElem?_eq_getElem hiK⟩
          have hxr := HR.out x (List.mem_of_getElem? hx)
          obtain ⟨b, o, rfl, hc⟩ := HCL.out i x hx
          have e0 : wr.cell? ⟨b, o + i * 4, none⟩ = some (.int .i64 x.kind) := cell_later hB (hc 0 _ rfl)
          have e1 : wr.cell? ⟨b, o + i * 4 + 1, none⟩ = some (.int .i64 x.peer) := cell_later hB (hc 1 _ rfl)
          have e2 : wr.cell? ⟨b, o + i * 4 + 2, none⟩ = some (.int .i64 x.n) := cell_later hB (hc 2 _ rfl)
          have e3 : wr.cell? ⟨b, o + i * 4 + 3, none⟩ = some (.int .i64 x.left) := cell_later hB (hc 3 _ rfl)
          have HXR := Lib.hid hxr
          have HI := Lib.hid (show i < m ∧ i < 60 from ⟨hin, hi6⟩)
          have HT := Lib.hid hT
          have HF := Lib.hid hF
          have HRt := Lib.hid hRt
          have HGP := Lib.hid hgP
          have HK := Lib.hid hK
          have HB := Lib.hid hB
          clear him hi60 hT hF hRt hgP hK hB hin hi6 hiK hx hxr hc
          go_upto_region 12 with (first
            | ((with_reducible refine at_alloc 46 ?_); refine wpList_alloc_zero rfl 46 rfl _ alloc_act ?_)
            | ((with_reducible refine at_store 46 ?_); refine wpList_store_row rfl 46 _ _ rfl _ (actA x) rfl rfl _ _ (heap_alloc_new _ _) (info_act x) rfl (one_act x) ?_))
          have hB6 : Below wr.heap.size wr ((wr.alloc (.cells (actA ⟨0, 0, 0, 0⟩) 46)).setRow wr.heap.size (actA x)) := below_setRow ((Below.refl _ wr).alloc (Nat.le_refl _) _) (Nat.le_refl _) _
          have k6 := heap_setRow (heap_alloc_new wr (.cells (actA ⟨0, 0, 0, 0⟩) 46)) (actA x)
          generalize (wr.alloc (.cells (actA ⟨0, 0, 0, 0⟩) 46)).setRow wr.heap.size (actA x) = w6 at *
          obtain ⟨Q, hQ⟩ : ∃ Q, Q = wr.heap.size := ⟨_, rfl⟩
          have HQM : Hid (mb < Q) := by show mb < Q; rw [hQ]; exact HT.out.mlt
          rw [← hQ] at k6 ⊢
          have HT6 := Lib.hid (HT.out.later hB6)
          have HR6 := Lib.hid (HRt.out.later hB6)
          have HKP6 := Lib.hid ((hB6.block P (Array.getElem?_eq_some_iff.1 HK.out).1).trans HK.out)
          have HB6 := Lib.hid (HB.out.trans (hB6.mono HB.out.size))
          have K6 := Lib.hid k6
          obtain ⟨zk, hzk⟩ : ∃ q, bits .and .i64 x.kind 3 = q := ⟨_, rfl⟩
          obtain ⟨zp, hzp⟩ : ∃ q, q = x.peer := ⟨_, rfl⟩
          obtain ⟨zn, hzn⟩ : ∃ q, q = x.n := ⟨_, rfl⟩
          obtain ⟨zl, hzl⟩ : ∃ q, q = x.left := ⟨_, rfl⟩
          have q0 : w6.cell? ⟨Q, 0, none⟩ = some (.int .i64 x.kind) := by rw [cell_of_row _ _ _ _ _ _ k6]; rfl
          have HQC := Lib.hid (qcells hzp hzn hzl k6)
          have HZN : Hid (zn ≤ 9223372036854775807) := by show zn ≤ _; rw [hzn]; exact HXR.out.2.2.1.2
          clear hB6 k6 hQ HT HRt HK HB hzp hzn hzl HXR
          go_upto_region 18 with fail
          rename_i K29 a29 K19 a19 K18 a18
          have MID0 : ∀ (w10 : World) (G : Nat → Nat × Nat) (N9 g8 c8 : Nat) (v17 v18 v19 v20 v21 v22 v23 v24 v25 v81 v82 v83 v84 v85 v86 v87 v88 v89 v90 v91 v92 v93 v94 v95 v96 v97 v98 v99 v100 v101 v102 v103 v104 v105 v106 v107 v108 v109 v110 v111 v112 v113 v114 v115 v116 v117 v118 v119 v120 v121 v122 v123 v124 v125 v126 v127 v128 v129 v130 v131 v132 v133 v134 v135 v136 v137 v138 v139 v140 : Value), Tab w10 tb mb many limit hold G N9 → Fine limit hold G → RTab w10 g8 c8 many G → g8 ≠ P → w10.heap[P]? = some (.cells (tvalC limit hold g8 c8 many) 42 (0, 0)) → Below w.heap.size w w10 → N9 ≤ 64 * (i + 1) → K29 ⟨#[Value.int .i64 (many : Int), Value.int .i64 (limit : Int), Value.int .i64 (hold : Int), Value.slice (some ⟨b, o, none⟩) m c, undef, undef, undef, undef, u8, Value.bool true, Value.pointer (some ⟨tb, 0, none⟩), Value.int .i64 0, Value.pointer (some ⟨P, 0, none⟩), Value.int .i64 0, Value.int .i64 (i : Int), Value.pointer (some ⟨Q, 0, none⟩), Value.bool true, v17, v18, v19, v20, v21, v22, v23, v24, v25, u26, u27, u28, u29, undef, undef, undef, Value.bool true, Value.bool true, Value.bool false, Value.tuple #[Value.pointer (some ⟨tb, 0, none⟩), Value.int .i64 0], Value.int .i64 (many : Int), Value.int .i64 (limit : Int), Value.int .i64 (hold : Int), Value.tuple #[Value.pointer (some ⟨tb, 0, none⟩), Value.int .i64 0], Value.pointer (some ⟨tb, 0, none⟩), Value.int .i64 0, Value.tuple #[Value.agg (tvalC limit hold g0 c' many), Value.int .i64 0], Value.int .i64 (many : Int), Value.int .i64 (limit : Int), Value.int .i64 (hold : Int), Value.tuple #[Value.agg (tvalC limit hold g0 c' many), Value.int .i64 0], Value.agg (tvalC limit hold g0 c' many), Value.int .i64 0, Value.int .i64 0, Value.int .i64 0, Value.bool false, Value.bool false, Value.pointer (some ⟨tb, 0, none⟩), Value.bool false, Value.int .i64 0, Value.bool false, Value.bool false, Value.bool false, Value.int .i64 (i : Int), Value.slice (some ⟨b, o, none⟩) m c, Value.int .i64 (m : Int), Value.bool true, Value.bool true, Value.int .i64 (i : Int), Value.bool true, Value.bool true, Value.bool true, Value.pointer (some ⟨tb, 0, none⟩), Value.bool true, Value.bool true, u72, u73, Value.slice (some ⟨b, o, none⟩) m c, Value.int .i64 (i : Int), Value.pointer (some ⟨b, o + i * 4, none⟩), Value.agg #[Value.int .i64 x.kind, Value.int .i64 x.peer, Value.int .i64 x.n, Value.int .i64 x.left], Value.pointer (some ⟨Q, 0, none⟩), Value.int .i64 x.kind, Value.int .i64 zk, v81, v82, v83, v84, v85, v86, v87, v88, v89, v90, v91, v92, v93, v94, v95, v96, v97, v98, v99, v100, v101, v102, v103, v104, v105, v106, v107, v108, v109, v110, v111, v112, v113, v114, v115, v116, v117, v118, v119, v120, v121, v122, v123, v124, v125, v126, v127, v128, v129, v130, v131, v132, v133, v134, v135, v136, v137, v138, v139, v140, u141, u142, u143, u144, u145, u146, u147, u148, u149, u150, u151, u152, u153, u154, u155, u156, u157, u158, u159, u160, u161, u162, u163, u164, u165, u166, u167, u168, u169, u170, u171, u172, u173, u174, u175, u176, u177, u178, u179, u180, u181, u182, u183, u184, u185, u186, u187, u188, u189, u190, u191, u192, u193, u194, u195, u196, u197, u198, u199, u200, u201, u202, u203, u204, u205, u206, u207, u208, u209, u210, u211, u212, u213, u214, u215, u216, u217, u218, undef, undef, undef, undef, undef, undef, undef, undef, undef, undef, undef, undef, undef, undef, undef, undef, undef, undef, undef, undef, undef, undef, undef, undef, undef, undef, undef, undef, undef, undef, undef, undef, undef], []⟩ w10 := by
            intro w10 G N9 g8 c8 v17 v18 v19 v20 v21 v22 v23 v24 v25 v81 v82 v83 v84 v85 v86 v87 v88 v89 v90 v91 v92 v93 v94 v95 v96 v97 v98 v99 v100 v101 v102 v103 v104 v105 v106 v107 v108 v109 v110 v111 v112 v113 v114 v115 v116 v117 v118 v119 v120 v121 v122 v123 v124 v125 v126 v127 v128 v129 v130 v131 v132 v133 v134 v135 v136 v137 v138 v139 v140 hT10 hFG hR10 hG8 hKP10 hB10 hN9
            have HT10 := Lib.hid hT10
            have HFG := Lib.hid hFG
            have HR10 := Lib.hid hR10
            have HG8 := Lib.hid hG8
            have KP10 := Lib.hid hKP10
            have HB10 := Lib.hid hB10
            have HN9 := Lib.hid hN9
            clear hT10 hFG hR10 hG8 hKP10 hB10 hN9 a19 a18 q0 e0 e1 e2 e3 HT6 HR6 HKP6 HB6 K6 HQC HZN HCL
            refine a29 _ _ ?_
            go_upto_region 29 with fail
            have HOL := Lib.hid (Nat.le_trans (opens_le many G) HMM.out.2.1)
            refine Each.region_all (by kernel_rfl) (by kernel_rfl) (by kernel_rfl) (fun _ w1 => Below w10.heap.size w10 w1) (fun _ w w' => Below w.heap.size w w') (Each.nth [fun v _ => v = .bool true, fun v _ => v = .bool false, fun v _ => v = .bool false, fun v _ => v = .pointer (some ⟨tb, 0, none⟩), fun v w => ∃ b, NumRow w b v (opens many G), fun v _ => v = .agg (tvalC limit hold g8 c8 many), fun v w => ∃ b, NumRow w b v (opens many G), fun v _ => v = .bool true, fun v _ => v = .bool false, fun v _ => v = .bool false]) (fun _ w => Below.refl _ _) (fun _ _ _ _ h => h) ?stab4 ((Below.refl _ _).drew) ?hob4 ?hend4
            case stab4 =>
              refine Each.nth_stab _ ?_
              refine Each.stab_cons (fun _ _ _ _ _ _ _ e => e) ?_
              refine Each.stab_cons (fun _ _ _ _ _ _ _ e => e) ?_
              refine Each.stab_cons (fun _ _ _ _ _ _ _ e => e) ?_
              refine Each.stab_cons (fun _ _ _ _ _ _ _ e => e) ?_
              refine Each.stab_cons (fun _ _ _ _ _ _ h e => e.elim fun b hb => ⟨b, owns_later hb h⟩) ?_
              refine Each.stab_cons (fun _ _ _ _ _ _ _ e => e) ?_
              refine Each.stab_cons (fun _ _ _ _ _ _ h e => e.elim fun b hb => ⟨b, owns_later hb h⟩) ?_
              refine Each.stab_cons (fun _ _ _ _ _ _ _ e => e) ?_
              refine Each.stab_cons (fun _ _ _ _ _ _ _ e => e) ?_
              refine Each.stab_cons (fun _ _ _ _ _ _ _ e => e) ?_
              exact Each.stab_nil
            case hob4 =>
              refine Each.obvs_cons (Each.obv_val (fun w => Below.refl _ _) (fun _ _ h => h) _ (fun ev vs dn w1 he hk hg hfn hI hf hc hd => ⟨trivial, ?_, rfl⟩)) ?_
              · have e16 : ev (.tmp 16) = .bool true := (he 16).trans (by kernel_rfl)
                clear hd hf hc he
                go_simp
                try first | exact IntWalk.i64_in _ (by omega) | exact IntWalk.u64_in _ (by omega) | exact IntWalk.u32_in _ (by omega)
              refine Each.obvs_cons (Each.obv_val (fun w => Below.refl _ _) (fun _ _ h => h) _ (fun ev vs dn w1 he hk hg hfn hI hf hc hd => ⟨trivial, ?_, rfl⟩)) ?_
              · have h0 : vs 0 = _ := hd 0 (by decide)
                have e141 : ev (.tmp 141) = vs 0 := (he 141).trans (by kernel_rfl)
                rw [h0] at e141
                clear hd hf hc he
                clear h0
                go_simp
                try first | exact IntWalk.i64_in _ (by omega) | exact IntWalk.u64_in _ (by omega) | exact IntWalk.u32_in _ (by omega)
              refine Each.obvs_cons (Each.obv_val (fun w => Below.refl _ _) (fun _ _ h => h) _ (fun ev vs dn w1 he hk hg hfn hI hf hc hd => ⟨trivial, ?_, rfl⟩)) ?_
              · have h1 : vs 1 = _ := hd 1 (by decide)
                have e142 : ev (.tmp 142) = vs 1 := (he 142).trans (by kernel_rfl)
                rw [h1] at e142
                clear hd hf hc he
                clear h1
                go_simp
                try first | exact IntWalk.i64_in _ (by omega) | exact IntWalk.u64_in _ (by omega) | exact IntWalk.u32_in _ (by omega)
              refine Each.obvs_cons (Each.obv_val (fun w => Below.refl _ _) (fun _ _ h => h) _ (fun ev vs dn w1 he hk hg hfn hI hf hc hd => ⟨hd 2 (by decide), ?_, rfl⟩)) ?_
              · have h2 : vs 2 = _ := hd 2 (by decide)
                have e10 : ev (.tmp 10) = .pointer (some ⟨tb, 0, none⟩) := (he 10).trans (by kernel_rfl)
                clear hd hf hc he
                clear h2
                go_simp
                try first | exact IntWalk.i64_in _ (by omega) | exact IntWalk.u64_in _ (by omega) | exact IntWalk.u32_in _ (by omega)
              refine Each.obvs_cons (Each.obv_call (fun ev vs dn w1 he hk hg hfn hI hf hc hd => ⟨hd 2 (by decide), 13, #[.pointer (some ⟨tb, 0, none⟩)], ?_, ?_⟩)) ?_
              · have h2 : vs 2 = _ := hd 2 (by decide)
                have h3 : vs 3 = _ := hd 3 (by decide)
                have e144 : ev (.tmp 144) = vs 3 := (he 144).trans (by kernel_rfl)
                rw [h3] at e144
                clear hd hf hc he
                clear h2 h3
                go_simp
                try first | exact IntWalk.i64_in _ (by omega) | exact IntWalk.u64_in _ (by omega) | exact IntWalk.u32_in _ (by omega)
              · have h2 : vs 2 = _ := hd 2 (by decide)
                have h3 : vs 3 = _ := hd 3 (by decide)
                clear hd hf hc he hk hg hfn
                refine (open_any (HT10.out.later hI) HMM.out.2.1).mono ?_
                rintro e w2 ⟨v, rfl, hrz, hBz⟩
                exact ⟨_, rfl, hI.trans (hBz.mono hI.size), hBz, ⟨_, hrz⟩⟩
              refine Each.obvs_cons (Each.obv_val (fun w => Below.refl _ _) (fun _ _ h => h) _ (fun ev vs dn w1 he hk hg hfn hI hf hc hd => ⟨hd 2 (by decide), ?_, rfl⟩)) ?_
              · have h2 : vs 2 = _ := hd 2 (by decide)
                have e12 : ev (.tmp 12) = .pointer (some ⟨P, 0, none⟩) := (he 12).trans (by kernel_rfl)
                clear hd he
                clear h2
                exact ev_loadT P (by exact e12) _ rfl _ _ ((hI.block _ (Array.getElem?_eq_some_iff.1 KP10.out).1).trans KP10.out)
              refine Each.obvs_cons (Each.obv_call (fun ev vs dn w1 he hk hg hfn hI hf hc hd => ⟨hd 2 (by decide), 20, #[.agg (tvalC limit hold g8 c8 many)], ?_, ?_⟩)) ?_
              · have h2 : vs 2 = _ := hd 2 (by decide)
                have h4 := hd 4 (by decide)
                have h5 : vs 5 = _ := hd 5 (by decide)
                have e146 : ev (.tmp 146) = vs 5 := (he 146).trans (by kernel_rfl)
                rw [h5] at e146
                clear hd hf hc he
                clear h2 h5
                go_simp
                try first | exact IntWalk.i64_in _ (by omega) | exact IntWalk.u64_in _ (by omega) | exact IntWalk.u32_in _ (by omega)
              · have h2 : vs 2 = _ := hd 2 (by decide)
                have h4 := hd 4 (by decide)
                have h5 : vs 5 = _ := hd 5 (by decide)
                clear hd hf hc he hk hg hfn
                refine (ropen_any (HR10.out.later hI) HMM.out.2.1).mono ?_
                rintro e w2 ⟨v, rfl, hrz, hBz⟩
                exact ⟨_, rfl, hI.trans (hBz.mono hI.size), hBz, ⟨_, hrz⟩⟩
              refine Each.obvs_cons (Each.obv_call (fun ev vs dn w1 he hk hg hfn hI hf hc hd => ⟨hd 2 (by decide), 19, #[vs 4, vs 6], ?_, ?_⟩)) ?_
              · have h2 : vs 2 = _ := hd 2 (by decide)
                have h4 := hd 4 (by decide)
                have h6 := hd 6 (by decide)
                have e145 : ev (.tmp 145) = vs 4 := (he 145).trans (by kernel_rfl)
                have e147 : ev (.tmp 147) = vs 6 := (he 147).trans (by kernel_rfl)
                clear hd hf hc he
                clear h2
                go_simp
                try first | exact IntWalk.i64_in _ (by omega) | exact IntWalk.u64_in _ (by omega) | exact IntWalk.u32_in _ (by omega)
              · have h2 : vs 2 = _ := hd 2 (by decide)
                have h4 := hd 4 (by decide)
                have h6 := hd 6 (by decide)
                clear hd hf hc he hk hg hfn
                obtain ⟨b4, r4⟩ := h4
                obtain ⟨b6, r6⟩ := h6
                refine (rsame_any w1 b4 b6 _ _ _ r4 r6 HOL.out).mono ?_
                rintro e w2 ⟨rfl, hBz⟩
                exact ⟨_, rfl, hI.trans (hBz.mono hI.size), hBz, rfl⟩
              refine Each.obvs_cons (Each.obv_val (fun w => Below.refl _ _) (fun _ _ h => h) _ (fun ev vs dn w1 he hk hg hfn hI hf hc hd => ⟨hd 2 (by decide), ?_, rfl⟩)) ?_
              · have h2 : vs 2 = _ := hd 2 (by decide)
                have h7 : vs 7 = _ := hd 7 (by decide)
                have e148 : ev (.tmp 148) = vs 7 := (he 148).trans (by kernel_rfl)
                rw [h7] at e148
                clear hd hf hc he
                clear h2 h7
                go_simp
                try first | exact IntWalk.i64_in _ (by omega) | exact IntWalk.u64_in _ (by omega) | exact IntWalk.u32_in _ (by omega)
              refine Each.obvs_cons (Each.obv_val (fun w => Below.refl _ _) (fun _ _ h => h) _ (fun ev vs dn w1 he hk hg hfn hI hf hc hd => ⟨trivial, ?_, rfl⟩)) ?_
              · have h2 : vs 2 = _ := hd 2 (by decide)
                have h8 : vs 8 = _ := hd 8 (by decide)
                have e143 : ev (.tmp 143) = vs 2 := (he 143).trans (by kernel_rfl)
                rw [h2] at e143
                have e149 : ev (.tmp 149) = vs 8 := (he 149).trans (by kernel_rfl)
                rw [h8] at e149
                clear hd hf hc he
                clear h2 h8
                go_simp
                try first | exact IntWalk.i64_in _ (by omega) | exact IntWalk.u64_in _ (by omega) | exact IntWalk.u32_in _ (by omega)
              exact Each.obvs_nil
            case hend4 =>
              intro vs dn wx hI hR
              have h9 : vs 9 = _ := hR 9 (by decide)
              have hBz : Below w10.heap.size w10 wx := hI
              clear hR hI
              simp only [Each.puts, Act.put, List.setIfInBounds_toArray, List.set_cons_zero, List.set_cons_succ, Nat.zero_add, Nat.reduceAdd]
              rw [h9]
              clear h9
              have HTx := Lib.hid (HT10.out.later hBz)
              have HRx := Lib.hid (HR10.out.later hBz)
              have KPx := Lib.hid ((hBz.block P (Array.getElem?_eq_some_iff.1 KP10.out).1).trans KP10.out)
              have HBx := Lib.hid (HB10.out.trans (hBz.mono HB10.out.size))
              clear hBz HT10 HR10 KP10 HB10 HOL
              go_wp2
              go_loopw [26, 27, 28, 29] (fun kv _ _ _ wr => ∃ (j : Nat) (z : Int), j ≤ many + 2 ∧ z = (j : Int) - 1 ∧ kv = .int .i64 z ∧ Below wx.heap.size wx wr) (fun kv _ _ _ _ => (many : Nat) + 2 - (intOf kv + 1).toNat)
              case atStart => exact ⟨0, -1, by omega, rfl, rfl, Below.refl _ _⟩
              case round =>
                obtain ⟨j, z, hj, hz, rfl, hBj⟩ := hrel
                have HTj := Lib.hid (HTx.out.later hBj)
                have HRj := Lib.hid (HRx.out.later hBj)
                have KPj := Lib.hid ((hBj.block P (Array.getElem?_eq_some_iff.1 KPx.out).1).trans KPx.out)
                have HBj := Lib.hid hBj
                have s2 : wr.cell? ⟨P, 2, none⟩ = some (.slice (some ⟨g8, 0, none⟩) many c8) := by rw [cell_of_row _ _ _ _ _ _ KPj.out]; rfl
                have HZJ := Lib.hid hz
                clear hBj
                by_cases hzm : z ≤ (many : Int)
                · obtain ⟨z1, hz1⟩ : ∃ y, y = z + 1 := ⟨_, rfl⟩
                  have fq : z + 1 = z1 := hz1.symm
                  have fw : wrap64 z1 = z1 := IntWalk.wrap64_in _ (by have := HMM.out; omega)
                  have HZ1 := Lib.hid (show z1 = ((j + 1 : Nat) : Int) - 1 by omega)
                  have HJ := Lib.hid (show j + 1 ≤ many + 2 by omega)
                  by_cases hp : isP many z = true
                  · have hpp : 0 ≤ z ∧ z < (many : Int) := by simpa [isP] using hp
                    obtain ⟨k, rfl⟩ : ∃ n : Nat, z = (n : Int) := ⟨z.toNat, by omega⟩
                    have hkm : k < many := by omega
                    obtain ⟨x8, hx8⟩ : ∃ y, y = G k := ⟨_, rfl⟩
                    obtain ⟨p, l⟩ := x8
                    have HX8 := Lib.hid hx8.symm
                    have HPE := Lib.hid (peer_in k (p, l) HTj.out HMM.out.2.1 hkm hx8)
                    have HKM := Lib.hid hkm
                    obtain ⟨d, hd⟩ : ∃ d, d = decide ((0 : Int) < (l : Int)) := ⟨_, rfl⟩
                    have HAWD : Hid (isAway many G (k : Int) = d) := by
                      show _ = d
                      rw [isAway, hp, Bool.true_and, Int.toNat_natCast, ← hx8, hd]
                      exact decide_eq_decide.2 (by show 0 < l ↔ _; omega)
                    have HD1 := Lib.hid hd.symm
                    have HD2 := Lib.hid (show decide (0 < l) = d by rw [hd]; exact decide_eq_decide.2 (by omega))
                    have k0 : (0 : Int) ≤ (k : Int) := by omega
                    have k1 : (k : Int) < (many : Int) := by omega
                    have k2 : decide (k < many) = true := decide_eq_true hkm
                    clear hz hj hz1 hp hpp hx8 hd hkm
                    go_upto_region 35 with (first
                      | (go_at_call 10; refine HPE.out.mono ?_; rintro e w24 ⟨rfl, hB24⟩)
                      | ((with_reducible refine at_alloc 31 ?_); refine wpList_alloc_zero rfl 31 rfl _ alloc_peer ?_)
                      | ((with_reducible refine at_store 31 ?_); refine wpList_store_row rfl 31 _ _ rfl _ (peerC (p, l)) rfl rfl _ _ (heap_alloc_new _ _) (info_peer _) (size_peer _ _) (one_peer _) ?_))
                    have hB25 : Below w24.heap.size w24 ((w24.alloc (.cells (peerC (0, 0)) 31)).setRow w24.heap.size (peerC (p, l))) := below_setRow ((Below.refl _ w24).alloc (Nat.le_refl _) _) (Nat.le_refl _) _
                    have k5 := heap_setRow (heap_alloc_new w24 (.cells (peerC (0, 0)) 31)) (peerC (p, l))
                    generalize (w24.alloc (.cells (peerC (0, 0)) 31)).setRow w24.heap.size (peerC (p, l)) = w25 at *
                    obtain ⟨Q5, hQ5⟩ : ∃ Q, Q = w24.heap.size := ⟨_, rfl⟩
                    rw [← hQ5] at k5 ⊢
                    have hBa := hB24.trans (hB25.mono hB24.size)
                    have HT5 := Lib.hid (HTj.out.later hBa)
                    have HR5 := Lib.hid (HRj.out.later hBa)
                    have KP5 := Lib.hid ((hBa.block P (Array.getElem?_eq_some_iff.1 KPj.out).1).trans KPj.out)
                    have HB5 := Lib.hid (HBj.out.trans (hBa.mono HBj.out.size))
                    have CP2 : Hid (w25.cell? ⟨P, 2, none⟩ = some (.slice (some ⟨g8, 0, none⟩) many c8)) := by show _ = _; rw [cell_of_row _ _ _ _ _ _ KP5.out]; rfl
                    have cp2 := CP2.out
                    have C50 := Lib.hid (peer_cell0 k5)
                    have C51 := Lib.hid (peer_cell1 k5)
                    clear hB24 hB25 k5 hQ5 hBa HPE s2
                    have CG0 := Lib.hid (HR5.out.cell0 k HKM.out)
                    have CG1 := Lib.hid (HR5.out.cell1 k HKM.out)
                    rw [HX8.out] at CG0 CG1
                    clear HR5
                    go_upto_region 36 with fail
                    clear k0 k1 k2 cp2 hzm
                    refine Each.region_all (by kernel_rfl) (by kernel_rfl) (by kernel_rfl) (fun _ w1 => Below w25.heap.size w25 w1) (fun _ w w' => Below w.heap.size w w') (Each.nth [fun v _ => v = .bool true, fun v _ => v = .bool true, fun v _ => v = .bool false, fun v _ => v = .bool false, fun v _ => v = .bool true, fun v _ => v = .bool true, fun v _ => v = .pointer (some ⟨Q5, 0, none⟩), fun v _ => v = .int .i64 p, fun v _ => v = .pointer (some ⟨P, 2, none⟩), fun v _ => v = .slice (some ⟨g8, 0, none⟩) many c8, fun v _ => v = .int .i64 (k : Int), fun v _ => v = .pointer (some ⟨g8, k * 2, none⟩), fun v _ => v = .pointer (some ⟨g8, k * 2, none⟩), fun v _ => v = .int .i64 p, fun v _ => v = .bool false, fun v _ => v = .bool false, fun v _ => v = .pointer (some ⟨Q5, 1, none⟩), fun v _ => v = .int .i64 l, fun v _ => v = .pointer (some ⟨P, 2, none⟩), fun v _ => v = .slice (some ⟨g8, 0, none⟩) many c8, fun v _ => v = .int .i64 (k : Int), fun v _ => v = .pointer (some ⟨g8, k * 2, none⟩), fun v _ => v = .pointer (some ⟨g8, k * 2 + 1, none⟩), fun v _ => v = .int .i64 l, fun v _ => v = .bool false, fun v _ => v = .bool false, fun v _ => v = .bool false, fun v _ => v = .pointer (some ⟨tb, 0, none⟩), fun v _ => v = .int .i64 (k : Int), fun v _ => v = .bool d, fun v _ => v = .pointer (some ⟨Q5, 1, none⟩), fun v _ => v = .int .i64 l, fun v _ => v = .bool d, fun v _ => v = .bool false, fun v _ => v = .bool false, fun v _ => v = .bool false, fun v _ => v = .bool false, fun v _ => v = .bool false, fun v _ => v = .bool true, fun v _ => v = .bool false, fun v _ => v = .bool false, fun _ _ => True, fun _ _ => True, fun _ _ => True, fun v _ => v = .bool false, fun v _ => v = .bool false]) (fun _ w => Below.refl _ _) (fun _ _ _ _ h => h) ?stab1 ((Below.refl _ _).drew) ?hob1 ?hend1
                    case stab1 =>
                      refine Each.nth_stab _ ?_
                      refine Each.stab_cons (fun _ _ _ _ _ _ _ e => e) ?_
                      refine Each.stab_cons (fun _ _ _ _ _ _ _ e => e) ?_
                      refine Each.stab_cons (fun _ _ _ _ _ _ _ e => e) ?_
                      refine Each.stab_cons (fun _ _ _ _ _ _ _ e => e) ?_
                      refine Each.stab_cons (fun _ _ _ _ _ _ _ e => e) ?_
                      refine Each.stab_cons (fun _ _ _ _ _ _ _ e => e) ?_
                      refine Each.stab_cons (fun _ _ _ _ _ _ _ e => e) ?_
                      refine Each.stab_cons (fun _ _ _ _ _ _ _ e => e) ?_
                      refine Each.stab_cons (fun _ _ _ _ _ _ _ e => e) ?_
                      refine Each.stab_cons (fun _ _ _ _ _ _ _ e => e) ?_
                      refine Each.stab_cons (fun _ _ _ _ _ _ _ e => e) ?_
                      refine Each.stab_cons (fun _ _ _ _ _ _ _ e => e) ?_
                      refine Each.stab_cons (fun _ _ _ _ _ _ _ e => e) ?_
                      refine Each.stab_cons (fun _ _ _ _ _ _ _ e => e) ?_
                      refine Each.stab_cons (fun _ _ _ _ _ _ _ e => e) ?_
                      refine Each.stab_cons (fun _ _ _ _ _ _ _ e => e) ?_
                      refine Each.stab_cons (fun _ _ _ _ _ _ _ e => e) ?_
                      refine Each.stab_cons (fun _ _ _ _ _ _ _ e => e) ?_
                      refine Each.stab_cons (fun _ _ _ _ _ _ _ e => e) ?_
                      refine Each.stab_cons (fun _ _ _ _ _ _ _ e => e) ?_
                      refine Each.stab_cons (fun _ _ _ _ _ _ _ e => e) ?_
                      refine Each.stab_cons (fun _ _ _ _ _ _ _ e => e) ?_
                      refine Each.stab_cons (fun _ _ _ _ _ _ _ e => e) ?_
                      refine Each.stab_cons (fun _ _ _ _ _ _ _ e => e) ?_
                      refine Each.stab_cons (fun _ _ _ _ _ _ _ e => e) ?_
                      refine Each.stab_cons (fun _ _ _ _ _ _ _ e => e) ?_
                      refine Each.stab_cons (fun _ _ _ _ _ _ _ e => e) ?_
                      refine Each.stab_cons (fun _ _ _ _ _ _ _ e => e) ?_
                      refine Each.stab_cons (fun _ _ _ _ _ _ _ e => e) ?_
                      refine Each.stab_cons (fun _ _ _ _ _ _ _ e => e) ?_
                      refine Each.stab_cons (fun _ _ _ _ _ _ _ e => e) ?_
                      refine Each.stab_cons (fun _ _ _ _ _ _ _ e => e) ?_
                      refine Each.stab_cons (fun _ _ _ _ _ _ _ e => e) ?_
                      refine Each.stab_cons (fun _ _ _ _ _ _ _ e => e) ?_
                      refine Each.stab_cons (fun _ _ _ _ _ _ _ e => e) ?_
                      refine Each.stab_cons (fun _ _ _ _ _ _ _ e => e) ?_
                      refine Each.stab_cons (fun _ _ _ _ _ _ _ e => e) ?_
                      refine Each.stab_cons (fun _ _ _ _ _ _ _ e => e) ?_
                      refine Each.stab_cons (fun _ _ _ _ _ _ _ e => e) ?_
                      refine Each.stab_cons (fun _ _ _ _ _ _ _ e => e) ?_
                      refine Each.stab_cons (fun _ _ _ _ _ _ _ e => e) ?_
                      refine Each.stab_cons (fun _ _ _ _ _ _ _ e => e) ?_
                      refine Each.stab_cons (fun _ _ _ _ _ _ _ e => e) ?_
                      refine Each.stab_cons (fun _ _ _ _ _ _ _ e => e) ?_
                      refine Each.stab_cons (fun _ _ _ _ _ _ _ e => e) ?_
                      refine Each.stab_cons (fun _ _ _ _ _ _ _ e => e) ?_
                      exact Each.stab_nil
                    case hob1 =>
                      refine Each.obvs_cons (Each.obv_val (fun w => Below.refl _ _) (fun _ _ h => h) _ (fun ev vs dn w1 he hk hg hfn hI hf hc hd => ⟨trivial, ?_, rfl⟩)) ?_
                      · have e28 : ev (.tmp 28) = .bool true := (he 28).trans (by kernel_rfl)
                        clear hd hf hc he
                        go_simp
                        try first | exact IntWalk.i64_in _ (by omega) | exact IntWalk.u64_in _ (by omega) | exact IntWalk.u32_in _ (by omega)
                      refine Each.obvs_cons (Each.obv_val (fun w => Below.refl _ _) (fun _ _ h => h) _ (fun ev vs dn w1 he hk hg hfn hI hf hc hd => ⟨trivial, ?_, rfl⟩)) ?_
                      · have e29 : ev (.tmp 29) = .bool true := (he 29).trans (by kernel_rfl)
                        clear hd hf hc he
                        go_simp
                        try first | exact IntWalk.i64_in _ (by omega) | exact IntWalk.u64_in _ (by omega) | exact IntWalk.u32_in _ (by omega)
                      refine Each.obvs_cons (Each.obv_val (fun w => Below.refl _ _) (fun _ _ h => h) _ (fun ev vs dn w1 he hk hg hfn hI hf hc hd => ⟨trivial, ?_, rfl⟩)) ?_
                      · have h0 : vs 0 = _ := hd 0 (by decide)
                        have h1 : vs 1 = _ := hd 1 (by decide)
                        have e173 : ev (.tmp 173) = vs 0 := (he 173).trans (by kernel_rfl)
                        rw [h0] at e173
                        have e174 : ev (.tmp 174) = vs 1 := (he 174).trans (by kernel_rfl)
                        rw [h1] at e174
                        clear hd hf hc he
                        clear h0 h1
                        go_simp
                        try first | exact IntWalk.i64_in _ (by omega) | exact IntWalk.u64_in _ (by omega) | exact IntWalk.u32_in _ (by omega)
                      refine Each.obvs_cons (Each.obv_val (fun w => Below.refl _ _) (fun _ _ h => h) _ (fun ev vs dn w1 he hk hg hfn hI hf hc hd => ⟨trivial, ?_, rfl⟩)) ?_
                      · have h2 : vs 2 = _ := hd 2 (by decide)
                        have e175 : ev (.tmp 175) = vs 2 := (he 175).trans (by kernel_rfl)
                        rw [h2] at e175
                        clear hd hf hc he
                        clear h2
                        go_simp
                        try first | exact IntWalk.i64_in _ (by omega) | exact IntWalk.u64_in _ (by omega) | exact IntWalk.u32_in _ (by omega)
                      refine Each.obvs_cons (Each.obv_val (fun w => Below.refl _ _) (fun _ _ h => h) _ (fun ev vs dn w1 he hk hg hfn hI hf hc hd => ⟨hd 3 (by decide), ?_, rfl⟩)) ?_
                      · have h3 : vs 3 = _ := hd 3 (by decide)
                        have e29 : ev (.tmp 29) = .bool true := (he 29).trans (by kernel_rfl)
                        clear hd hf hc he
                        clear h3
                        go_simp
                        try first | exact IntWalk.i64_in _ (by omega) | exact IntWalk.u64_in _ (by omega) | exact IntWalk.u32_in _ (by omega)
                      refine Each.obvs_cons (Each.obv_val (fun w => Below.refl _ _) (fun _ _ h => h) _ (fun ev vs dn w1 he hk hg hfn hI hf hc hd => ⟨hd 3 (by decide), ?_, rfl⟩)) ?_
                      · have h3 : vs 3 = _ := hd 3 (by decide)
                        have h4 : vs 4 = _ := hd 4 (by decide)
                        have e177 : ev (.tmp 177) = vs 4 := (he 177).trans (by kernel_rfl)
                        rw [h4] at e177
                        clear hd hf hc he
                        clear h3 h4
                        go_simp
                        try first | exact IntWalk.i64_in _ (by omega) | exact IntWalk.u64_in _ (by omega) | exact IntWalk.u32_in _ (by omega)
                      refine Each.obvs_cons (Each.obv_val (fun w => Below.refl _ _) (fun _ _ h => h) _ (fun ev vs dn w1 he hk hg hfn hI hf hc hd => ⟨hd 5 (by decide), ?_, rfl⟩)) ?_
                      · have h5 : vs 5 = _ := hd 5 (by decide)
                        have e27 : ev (.tmp 27) = .pointer (some ⟨Q5, 0, none⟩) := (he 27).trans (by kernel_rfl)
                        clear hd hf hc he
                        clear h5
                        go_simp
                        try first | exact IntWalk.i64_in _ (by omega) | exact IntWalk.u64_in _ (by omega) | exact IntWalk.u32_in _ (by omega)
                      refine Each.obvs_cons (Each.obv_val (fun w => Below.refl _ _) (fun _ _ h => h) _ (fun ev vs dn w1 he hk hg hfn hI hf hc hd => ⟨hd 5 (by decide), ?_, rfl⟩)) ?_
                      · have h5 : vs 5 = _ := hd 5 (by decide)
                        have h6 : vs 6 = _ := hd 6 (by decide)
                        have e179 : ev (.tmp 179) = vs 6 := (he 179).trans (by kernel_rfl)
                        rw [h6] at e179
                        clear hd hf hc he
                        clear h5 h6
                        have hc := cell_later hI C50.out
                        go_simp
                      refine Each.obvs_cons (Each.obv_val (fun w => Below.refl _ _) (fun _ _ h => h) _ (fun ev vs dn w1 he hk hg hfn hI hf hc hd => ⟨hd 5 (by decide), ?_, rfl⟩)) ?_
                      · have h5 : vs 5 = _ := hd 5 (by decide)
                        have e12 : ev (.tmp 12) = .pointer (some ⟨P, 0, none⟩) := (he 12).trans (by kernel_rfl)
                        clear hd hf hc he
                        clear h5
                        go_simp
                        try first | exact IntWalk.i64_in _ (by omega) | exact IntWalk.u64_in _ (by omega) | exact IntWalk.u32_in _ (by omega)
                      refine Each.obvs_cons (Each.obv_val (fun w => Below.refl _ _) (fun _ _ h => h) _ (fun ev vs dn w1 he hk hg hfn hI hf hc hd => ⟨hd 5 (by decide), ?_, rfl⟩)) ?_
                      · have h5 : vs 5 = _ := hd 5 (by decide)
                        have h8 : vs 8 = _ := hd 8 (by decide)
                        have e181 : ev (.tmp 181) = vs 8 := (he 181).trans (by kernel_rfl)
                        rw [h8] at e181
                        clear hd hf hc he
                        clear h5 h8
                        have hc := cell_later hI CP2.out
                        go_simp
                      refine Each.obvs_cons (Each.obv_val (fun w => Below.refl _ _) (fun _ _ h => h) _ (fun ev vs dn w1 he hk hg hfn hI hf hc hd => ⟨hd 5 (by decide), ?_, rfl⟩)) ?_
                      · have h5 : vs 5 = _ := hd 5 (by decide)
                        have e26 : ev (.tmp 26) = .int .i64 (k : Int) := (he 26).trans (by kernel_rfl)
                        clear hd hf hc he
                        clear h5
                        go_simp
                        try first | exact IntWalk.i64_in _ (by omega) | exact IntWalk.u64_in _ (by omega) | exact IntWalk.u32_in _ (by omega)
                      refine Each.obvs_cons (Each.obv_val (fun w => Below.refl _ _) (fun _ _ h => h) _ (fun ev vs dn w1 he hk hg hfn hI hf hc hd => ⟨hd 5 (by decide), ?_, rfl⟩)) ?_
                      · have h5 : vs 5 = _ := hd 5 (by decide)
                        have h9 : vs 9 = _ := hd 9 (by decide)
                        have h10 : vs 10 = _ := hd 10 (by decide)
                        have e182 : ev (.tmp 182) = vs 9 := (he 182).trans (by kernel_rfl)
                        rw [h9] at e182
                        have e183 : ev (.tmp 183) = vs 10 := (he 183).trans (by kernel_rfl)
                        rw [h10] at e183
                        clear hd hf hc he
                        clear h5 h9 h10
                        have hkn : ¬ many ≤ k := by have := HKM.out; omega
                        go_simp
                      refine Each.obvs_cons (Each.obv_val (fun w => Below.refl _ _) (fun _ _ h => h) _ (fun ev vs dn w1 he hk hg hfn hI hf hc hd => ⟨hd 5 (by decide), ?_, rfl⟩)) ?_
                      · have h5 : vs 5 = _ := hd 5 (by decide)
                        have h11 : vs 11 = _ := hd 11 (by decide)
                        have e184 : ev (.tmp 184) = vs 11 := (he 184).trans (by kernel_rfl)
                        rw [h11] at e184
                        clear hd hf hc he
                        clear h5 h11
                        go_simp
                        try first | exact IntWalk.i64_in _ (by omega) | exact IntWalk.u64_in _ (by omega) | exact IntWalk.u32_in _ (by omega)
                      refine Each.obvs_cons (Each.obv_val (fun w => Below.refl _ _) (fun _ _ h => h) _ (fun ev vs dn w1 he hk hg hfn hI hf hc hd => ⟨hd 5 (by decide), ?_, rfl⟩)) ?_
                      · have h5 : vs 5 = _ := hd 5 (by decide)
                        have h12 : vs 12 = _ := hd 12 (by decide)
                        have e185 : ev (.tmp 185) = vs 12 := (he 185).trans (by kernel_rfl)
                        rw [h12] at e185
                        clear hd hf hc he
                        clear h5 h12
                        have hc := cell_later hI CG0.out
                        go_simp
                      refine Each.obvs_cons (Each.obv_val (fun w => Below.refl _ _) (fun _ _ h => h) _ (fun ev vs dn w1 he hk hg hfn hI hf hc hd => ⟨hd 5 (by decide), ?_, rfl⟩)) ?_
                      · have h5 : vs 5 = _ := hd 5 (by decide)
                        have h7 : vs 7 = _ := hd 7 (by decide)
                        have h13 : vs 13 = _ := hd 13 (by decide)
                        have e180 : ev (.tmp 180) = vs 7 := (he 180).trans (by kernel_rfl)
                        rw [h7] at e180
                        have e186 : ev (.tmp 186) = vs 13 := (he 186).trans (by kernel_rfl)
                        rw [h13] at e186
                        clear hd hf hc he
                        clear h5 h7 h13
                        go_simp
                        try first | exact IntWalk.i64_in _ (by omega) | exact IntWalk.u64_in _ (by omega) | exact IntWalk.u32_in _ (by omega)
                      refine Each.obvs_cons (Each.obv_val (fun w => Below.refl _ _) (fun _ _ h => h) _ (fun ev vs dn w1 he hk hg hfn hI hf hc hd => ⟨hd 5 (by decide), ?_, rfl⟩)) ?_
                      · have h5 : vs 5 = _ := hd 5 (by decide)
                        have h14 : vs 14 = _ := hd 14 (by decide)
                        have e187 : ev (.tmp 187) = vs 14 := (he 187).trans (by kernel_rfl)
                        rw [h14] at e187
                        clear hd hf hc he
                        clear h5 h14
                        go_simp
                        try first | exact IntWalk.i64_in _ (by omega) | exact IntWalk.u64_in _ (by omega) | exact IntWalk.u32_in _ (by omega)
                      refine Each.obvs_cons (Each.obv_val (fun w => Below.refl _ _) (fun _ _ h => h) _ (fun ev vs dn w1 he hk hg hfn hI hf hc hd => ⟨hd 15 (by decide), ?_, rfl⟩)) ?_
                      · have h15 : vs 15 = _ := hd 15 (by decide)
                        have e27 : ev (.tmp 27) = .pointer (some ⟨Q5, 0, none⟩) := (he 27).trans (by kernel_rfl)
                        clear hd hf hc he
                        clear h15
                        go_simp
                        try first | exact IntWalk.i64_in _ (by omega) | exact IntWalk.u64_in _ (by omega) | exact IntWalk.u32_in _ (by omega)
                      refine Each.obvs_cons (Each.obv_val (fun w => Below.refl _ _) (fun _ _ h => h) _ (fun ev vs dn w1 he hk hg hfn hI hf hc hd => ⟨hd 15 (by decide), ?_, rfl⟩)) ?_
                      · have h15 : vs 15 = _ := hd 15 (by decide)
                        have h16 : vs 16 = _ := hd 16 (by decide)
                        have e189 : ev (.tmp 189) = vs 16 := (he 189).trans (by kernel_rfl)
                        rw [h16] at e189
                        clear hd hf hc he
                        clear h15 h16
                        have hc := cell_later hI C51.out
                        go_simp
                      refine Each.obvs_cons (Each.obv_val (fun w => Below.refl _ _) (fun _ _ h => h) _ (fun ev vs dn w1 he hk hg hfn hI hf hc hd => ⟨hd 15 (by decide), ?_, rfl⟩)) ?_
                      · have h15 : vs 15 = _ := hd 15 (by decide)
                        have e12 : ev (.tmp 12) = .pointer (some ⟨P, 0, none⟩) := (he 12).trans (by kernel_rfl)
                        clear hd hf hc he
                        clear h15
                        go_simp
                        try first | exact IntWalk.i64_in _ (by omega) | exact IntWalk.u64_in _ (by omega) | exact IntWalk.u32_in _ (by omega)
                      refine Each.obvs_cons (Each.obv_val (fun w => Below.refl _ _) (fun _ _ h => h) _ (fun ev vs dn w1 he hk hg hfn hI hf hc hd => ⟨hd 15 (by decide), ?_, rfl⟩)) ?_
                      · have h15 : vs 15 = _ := hd 15 (by decide)
                        have h18 : vs 18 = _ := hd 18 (by decide)
                        have e191 : ev (.tmp 191) = vs 18 := (he 191).trans (by kernel_rfl)
                        rw [h18] at e191
                        clear hd hf hc he
                        clear h15 h18
                        have hc := cell_later hI CP2.out
                        go_simp
                      refine Each.obvs_cons (Each.obv_val (fun w => Below.refl _ _) (fun _ _ h => h) _ (fun ev vs dn w1 he hk hg hfn hI hf hc hd => ⟨hd 15 (by decide), ?_, rfl⟩)) ?_
                      · have h15 : vs 15 = _ := hd 15 (by decide)
                        have e26 : ev (.tmp 26) = .int .i64 (k : Int) := (he 26).trans (by kernel_rfl)
                        clear hd hf hc he
                        clear h15
                        go_simp
                        try first | exact IntWalk.i64_in _ (by omega) | exact IntWalk.u64_in _ (by omega) | exact IntWalk.u32_in _ (by omega)
                      refine Each.obvs_cons (Each.obv_val (fun w => Below.refl _ _) (fun _ _ h => h) _ (fun ev vs dn w1 he hk hg hfn hI hf hc hd => ⟨hd 15 (by decide), ?_, rfl⟩)) ?_
                      · have h15 : vs 15 = _ := hd 15 (by decide)
                        have h19 : vs 19 = _ := hd 19 (by decide)
                        have h20 : vs 20 = _ := hd 20 (by decide)
                        have e192 : ev (.tmp 192) = vs 19 := (he 192).trans (by kernel_rfl)
                        rw [h19] at e192
                        have e193 : ev (.tmp 193) = vs 20 := (he 193).trans (by kernel_rfl)
                        rw [h20] at e193
                        clear hd hf hc he
                        clear h15 h19 h20
                        have hkn : ¬ many ≤ k := by have := HKM.out; omega
                        go_simp
                      refine Each.obvs_cons (Each.obv_val (fun w => Below.refl _ _) (fun _ _ h => h) _ (fun ev vs dn w1 he hk hg hfn hI hf hc hd => ⟨hd 15 (by decide), ?_, rfl⟩)) ?_
                      · have h15 : vs 15 = _ := hd 15 (by decide)
                        have h21 : vs 21 = _ := hd 21 (by decide)
                        have e194 : ev (.tmp 194) = vs 21 := (he 194).trans (by kernel_rfl)
                        rw [h21] at e194
                        clear hd hf hc he
                        clear h15 h21
                        go_simp
                        try first | exact IntWalk.i64_in _ (by omega) | exact IntWalk.u64_in _ (by omega) | exact IntWalk.u32_in _ (by omega)
                      refine Each.obvs_cons (Each.obv_val (fun w => Below.refl _ _) (fun _ _ h => h) _ (fun ev vs dn w1 he hk hg hfn hI hf hc hd => ⟨hd 15 (by decide), ?_, rfl⟩)) ?_
                      · have h15 : vs 15 = _ := hd 15 (by decide)
                        have h22 : vs 22 = _ := hd 22 (by decide)
                        have e195 : ev (.tmp 195) = vs 22 := (he 195).trans (by kernel_rfl)
                        rw [h22] at e195
                        clear hd hf hc he
                        clear h15 h22
                        have hc := cell_later hI CG1.out
                        go_simp
                      refine Each.obvs_cons (Each.obv_val (fun w => Below.refl _ _) (fun _ _ h => h) _ (fun ev vs dn w1 he hk hg hfn hI hf hc hd => ⟨hd 15 (by decide), ?_, rfl⟩)) ?_
                      · have h15 : vs 15 = _ := hd 15 (by decide)
                        have h17 : vs 17 = _ := hd 17 (by decide)
                        have h23 : vs 23 = _ := hd 23 (by decide)
                        have e190 : ev (.tmp 190) = vs 17 := (he 190).trans (by kernel_rfl)
                        rw [h17] at e190
                        have e196 : ev (.tmp 196) = vs 23 := (he 196).trans (by kernel_rfl)
                        rw [h23] at e196
                        clear hd hf hc he
                        clear h15 h17 h23
                        go_simp
                        try first | exact IntWalk.i64_in _ (by omega) | exact IntWalk.u64_in _ (by omega) | exact IntWalk.u32_in _ (by omega)
                      refine Each.obvs_cons (Each.obv_val (fun w => Below.refl _ _) (fun _ _ h => h) _ (fun ev vs dn w1 he hk hg hfn hI hf hc hd => ⟨hd 5 (by decide), ?_, rfl⟩)) ?_
                      · have h5 : vs 5 = _ := hd 5 (by decide)
                        have h15 : vs 15 = _ := hd 15 (by decide)
                        have h24 : vs 24 = _ := hd 24 (by decide)
                        have e188 : ev (.tmp 188) = vs 15 := (he 188).trans (by kernel_rfl)
                        rw [h15] at e188
                        have e197 : ev (.tmp 197) = vs 24 := (he 197).trans (by kernel_rfl)
                        rw [h24] at e197
                        clear hd hf hc he
                        clear h5 h15 h24
                        go_simp
                        try first | exact IntWalk.i64_in _ (by omega) | exact IntWalk.u64_in _ (by omega) | exact IntWalk.u32_in _ (by omega)
                      refine Each.obvs_cons (Each.obv_val (fun w => Below.refl _ _) (fun _ _ h => h) _ (fun ev vs dn w1 he hk hg hfn hI hf hc hd => ⟨hd 5 (by decide), ?_, rfl⟩)) ?_
                      · have h5 : vs 5 = _ := hd 5 (by decide)
                        have h15 : vs 15 = _ := hd 15 (by decide)
                        have h25 : vs 25 = _ := hd 25 (by decide)
                        have e198 : ev (.tmp 198) = vs 25 := (he 198).trans (by kernel_rfl)
                        rw [h25] at e198
                        clear hd hf hc he
                        clear h5 h15 h25
                        go_simp
                        try first | exact IntWalk.i64_in _ (by omega) | exact IntWalk.u64_in _ (by omega) | exact IntWalk.u32_in _ (by omega)
                      refine Each.obvs_cons (Each.obv_val (fun w => Below.refl _ _) (fun _ _ h => h) _ (fun ev vs dn w1 he hk hg hfn hI hf hc hd => ⟨hd 26 (by decide), ?_, rfl⟩)) ?_
                      · have h26 : vs 26 = _ := hd 26 (by decide)
                        have e10 : ev (.tmp 10) = .pointer (some ⟨tb, 0, none⟩) := (he 10).trans (by kernel_rfl)
                        clear hd hf hc he
                        clear h26
                        go_simp
                        try first | exact IntWalk.i64_in _ (by omega) | exact IntWalk.u64_in _ (by omega) | exact IntWalk.u32_in _ (by omega)
                      refine Each.obvs_cons (Each.obv_val (fun w => Below.refl _ _) (fun _ _ h => h) _ (fun ev vs dn w1 he hk hg hfn hI hf hc hd => ⟨hd 26 (by decide), ?_, rfl⟩)) ?_
                      · have h26 : vs 26 = _ := hd 26 (by decide)
                        have e26 : ev (.tmp 26) = .int .i64 (k : Int) := (he 26).trans (by kernel_rfl)
                        clear hd hf hc he
                        clear h26
                        go_simp
                        try first | exact IntWalk.i64_in _ (by omega) | exact IntWalk.u64_in _ (by omega) | exact IntWalk.u32_in _ (by omega)
                      refine Each.obvs_cons (Each.obv_call (fun ev vs dn w1 he hk hg hfn hI hf hc hd => ⟨hd 26 (by decide), 12, #[.pointer (some ⟨tb, 0, none⟩), .int .i64 (k : Int)], ?_, ?_⟩)) ?_
                      · have h26 : vs 26 = _ := hd 26 (by decide)
                        have h27 : vs 27 = _ := hd 27 (by decide)
                        have h28 : vs 28 = _ := hd 28 (by decide)
                        have e200 : ev (.tmp 200) = vs 27 := (he 200).trans (by kernel_rfl)
                        rw [h27] at e200
                        have e201 : ev (.tmp 201) = vs 28 := (he 201).trans (by kernel_rfl)
                        rw [h28] at e201
                        clear hd hf hc he
                        clear h26 h27 h28
                        go_simp
                        try first | exact IntWalk.i64_in _ (by omega) | exact IntWalk.u64_in _ (by omega) | exact IntWalk.u32_in _ (by omega)
                      · have h26 : vs 26 = _ := hd 26 (by decide)
                        have h27 : vs 27 = _ := hd 27 (by decide)
                        have h28 : vs 28 = _ := hd 28 (by decide)
                        clear hd hf hc he hk hg hfn
                        refine (away_any (k : Int) (HT5.out.later hI) HMM.out.2.1).mono ?_
                        rintro e w2 ⟨rfl, rfl⟩
                        rw [HAWD.out]
                        exact ⟨_, rfl, hI, Below.refl _ _, rfl⟩
                      refine Each.obvs_cons (Each.obv_val (fun w => Below.refl _ _) (fun _ _ h => h) _ (fun ev vs dn w1 he hk hg hfn hI hf hc hd => ⟨hd 26 (by decide), ?_, rfl⟩)) ?_
                      · have h26 : vs 26 = _ := hd 26 (by decide)
                        have e27 : ev (.tmp 27) = .pointer (some ⟨Q5, 0, none⟩) := (he 27).trans (by kernel_rfl)
                        clear hd hf hc he
                        clear h26
                        go_simp
                        try first | exact IntWalk.i64_in _ (by omega) | exact IntWalk.u64_in _ (by omega) | exact IntWalk.u32_in _ (by omega)
                      refine Each.obvs_cons (Each.obv_val (fun w => Below.refl _ _) (fun _ _ h => h) _ (fun ev vs dn w1 he hk hg hfn hI hf hc hd => ⟨hd 26 (by decide), ?_, rfl⟩)) ?_
                      · have h26 : vs 26 = _ := hd 26 (by decide)
                        have h30 : vs 30 = _ := hd 30 (by decide)
                        have e203 : ev (.tmp 203) = vs 30 := (he 203).trans (by kernel_rfl)
                        rw [h30] at e203
                        clear hd hf hc he
                        clear h26 h30
                        have hc := cell_later hI C51.out
                        go_simp
                      refine Each.obvs_cons (Each.obv_val (fun w => Below.refl _ _) (fun _ _ h => h) _ (fun ev vs dn w1 he hk hg hfn hI hf hc hd => ⟨hd 26 (by decide), ?_, rfl⟩)) ?_
                      · have h26 : vs 26 = _ := hd 26 (by decide)
                        have h31 : vs 31 = _ := hd 31 (by decide)
                        have e204 : ev (.tmp 204) = vs 31 := (he 204).trans (by kernel_rfl)
                        rw [h31] at e204
                        clear hd hf hc he
                        clear h26 h31
                        have hd1 := HD1.out
                        have hd2 := HD2.out
                        go_simp
                      refine Each.obvs_cons (Each.obv_val (fun w => Below.refl _ _) (fun _ _ h => h) _ (fun ev vs dn w1 he hk hg hfn hI hf hc hd => ⟨hd 26 (by decide), ?_, rfl⟩)) ?_
                      · have h26 : vs 26 = _ := hd 26 (by decide)
                        have h29 : vs 29 = _ := hd 29 (by decide)
                        have h32 : vs 32 = _ := hd 32 (by decide)
                        have e202 : ev (.tmp 202) = vs 29 := (he 202).trans (by kernel_rfl)
                        rw [h29] at e202
                        have e205 : ev (.tmp 205) = vs 32 := (he 205).trans (by kernel_rfl)
                        rw [h32] at e205
                        clear hd hf hc he
                        clear h26 h29 h32
                        go_simp
                        try first | exact IntWalk.i64_in _ (by omega) | exact IntWalk.u64_in _ (by omega) | exact IntWalk.u32_in _ (by omega)
                      refine Each.obvs_cons (Each.obv_val (fun w => Below.refl _ _) (fun _ _ h => h) _ (fun ev vs dn w1 he hk hg hfn hI hf hc hd => ⟨hd 5 (by decide), ?_, rfl⟩)) ?_
                      · have h5 : vs 5 = _ := hd 5 (by decide)
                        have h26 : vs 26 = _ := hd 26 (by decide)
                        have h33 : vs 33 = _ := hd 33 (by decide)
                        have e199 : ev (.tmp 199) = vs 26 := (he 199).trans (by kernel_rfl)
                        rw [h26] at e199
                        have e206 : ev (.tmp 206) = vs 33 := (he 206).trans (by kernel_rfl)
                        rw [h33] at e206
                        clear hd hf hc he
                        clear h5 h26 h33
                        go_simp
                        try first | exact IntWalk.i64_in _ (by omega) | exact IntWalk.u64_in _ (by omega) | exact IntWalk.u32_in _ (by omega)
                      refine Each.obvs_cons (Each.obv_val (fun w => Below.refl _ _) (fun _ _ h => h) _ (fun ev vs dn w1 he hk hg hfn hI hf hc hd => ⟨hd 3 (by decide), ?_, rfl⟩)) ?_
                      · have h3 : vs 3 = _ := hd 3 (by decide)
                        have h5 : vs 5 = _ := hd 5 (by decide)
                        have h34 : vs 34 = _ := hd 34 (by decide)
                        have e178 : ev (.tmp 178) = vs 5 := (he 178).trans (by kernel_rfl)
                        rw [h5] at e178
                        have e207 : ev (.tmp 207) = vs 34 := (he 207).trans (by kernel_rfl)
                        rw [h34] at e207
                        clear hd hf hc he
                        clear h3 h5 h34
                        go_simp
                        try first | exact IntWalk.i64_in _ (by omega) | exact IntWalk.u64_in _ (by omega) | exact IntWalk.u32_in _ (by omega)
                      refine Each.obvs_cons (Each.obv_val (fun w => Below.refl _ _) (fun _ _ h => h) _ (fun ev vs dn w1 he hk hg hfn hI hf hc hd => ⟨trivial, ?_, rfl⟩)) ?_
                      · have h3 : vs 3 = _ := hd 3 (by decide)
                        have h35 : vs 35 = _ := hd 35 (by decide)
                        have e176 : ev (.tmp 176) = vs 3 := (he 176).trans (by kernel_rfl)
                        rw [h3] at e176
                        have e208 : ev (.tmp 208) = vs 35 := (he 208).trans (by kernel_rfl)
                        rw [h35] at e208
                        clear hd hf hc he
                        clear h3 h35
                        go_simp
                        try first | exact IntWalk.i64_in _ (by omega) | exact IntWalk.u64_in _ (by omega) | exact IntWalk.u32_in _ (by omega)
                      refine Each.obvs_cons (Each.obv_val (fun w => Below.refl _ _) (fun _ _ h => h) _ (fun ev vs dn w1 he hk hg hfn hI hf hc hd => ⟨trivial, ?_, rfl⟩)) ?_
                      · have h29 : vs 29 = _ := hd 29 (by decide)
                        have h36 : vs 36 = _ := hd 36 (by decide)
                        have e209 : ev (.tmp 209) = vs 36 := (he 209).trans (by kernel_rfl)
                        rw [h36] at e209
                        clear hd hf hc he
                        clear h29 h36
                        go_simp
                        try first | exact IntWalk.i64_in _ (by omega) | exact IntWalk.u64_in _ (by omega) | exact IntWalk.u32_in _ (by omega)
                      refine Each.obvs_cons (Each.obv_val (fun w => Below.refl _ _) (fun _ _ h => h) _ (fun ev vs dn w1 he hk hg hfn hI hf hc hd => ⟨hd 37 (by decide), ?_, rfl⟩)) ?_
                      · have h37 : vs 37 = _ := hd 37 (by decide)
                        have e29 : ev (.tmp 29) = .bool true := (he 29).trans (by kernel_rfl)
                        clear hd hf hc he
                        clear h37
                        go_simp
                        try first | exact IntWalk.i64_in _ (by omega) | exact IntWalk.u64_in _ (by omega) | exact IntWalk.u32_in _ (by omega)
                      refine Each.obvs_cons (Each.obv_val (fun w => Below.refl _ _) (fun _ _ h => h) _ (fun ev vs dn w1 he hk hg hfn hI hf hc hd => ⟨hd 37 (by decide), ?_, rfl⟩)) ?_
                      · have h37 : vs 37 = _ := hd 37 (by decide)
                        have h38 : vs 38 = _ := hd 38 (by decide)
                        have e211 : ev (.tmp 211) = vs 38 := (he 211).trans (by kernel_rfl)
                        rw [h38] at e211
                        clear hd hf hc he
                        clear h37 h38
                        go_simp
                        try first | exact IntWalk.i64_in _ (by omega) | exact IntWalk.u64_in _ (by omega) | exact IntWalk.u32_in _ (by omega)
                      refine Each.obvs_cons (Each.obv_val (fun w => Below.refl _ _) (fun _ _ h => h) _ (fun ev vs dn w1 he hk hg hfn hI hf hc hd => ⟨hd 37 (by decide), ?_, rfl⟩)) ?_
                      · have h37 : vs 37 = _ := hd 37 (by decide)
                        have h39 : vs 39 = _ := hd 39 (by decide)
                        have e212 : ev (.tmp 212) = vs 39 := (he 212).trans (by kernel_rfl)
                        rw [h39] at e212
                        clear hd hf hc he
                        clear h37 h39
                        go_simp
                        try first | exact IntWalk.i64_in _ (by omega) | exact IntWalk.u64_in _ (by omega) | exact IntWalk.u32_in _ (by omega)
                      refine Each.obvs_cons (Each.obv_skip 40 true rfl (fun vs dn w1 hI hf hc hd => ⟨hd 40 (by decide), trivial⟩)) ?_
                      refine Each.obvs_cons (Each.obv_skip 40 true rfl (fun vs dn w1 hI hf hc hd => ⟨hd 40 (by decide), trivial⟩)) ?_
                      refine Each.obvs_cons (Each.obv_skip 40 true rfl (fun vs dn w1 hI hf hc hd => ⟨hd 40 (by decide), trivial⟩)) ?_
                      refine Each.obvs_cons (Each.obv_val (fun w => Below.refl _ _) (fun _ _ h => h) _ (fun ev vs dn w1 he hk hg hfn hI hf hc hd => ⟨hd 37 (by decide), ?_, rfl⟩)) ?_
                      · have h37 : vs 37 = _ := hd 37 (by decide)
                        have h40 : vs 40 = _ := hd 40 (by decide)
                        have e213 : ev (.tmp 213) = vs 40 := (he 213).trans (by kernel_rfl)
                        rw [h40] at e213
                        have e216 : ev (.tmp 216) = vs 43 := (he 216).trans (by kernel_rfl)
                        clear hd hf hc he
                        clear h37 h40
                        go_simp
                        try first | exact IntWalk.i64_in _ (by omega) | exact IntWalk.u64_in _ (by omega) | exact IntWalk.u32_in _ (by omega)
                      refine Each.obvs_cons (Each.obv_val (fun w => Below.refl _ _) (fun _ _ h => h) _ (fun ev vs dn w1 he hk hg hfn hI hf hc hd => ⟨trivial, ?_, rfl⟩)) ?_
                      · have h37 : vs 37 = _ := hd 37 (by decide)
                        have h44 : vs 44 = _ := hd 44 (by decide)
                        have e210 : ev (.tmp 210) = vs 37 := (he 210).trans (by kernel_rfl)
                        rw [h37] at e210
                        have e217 : ev (.tmp 217) = vs 44 := (he 217).trans (by kernel_rfl)
                        rw [h44] at e217
                        clear hd hf hc he
                        clear h37 h44
                        go_simp
                        try first | exact IntWalk.i64_in _ (by omega) | exact IntWalk.u64_in _ (by omega) | exact IntWalk.u32_in _ (by omega)
                      exact Each.obvs_nil
                    case hend1 =>
                      intro vs dn wz hI hR
                      have h45 : vs 45 = _ := hR 45 (by decide)
                      have hBz : Below w25.heap.size w25 wz := hI
                      clear hR hI
                      simp only [Each.puts, Act.put, List.setIfInBounds_toArray, List.set_cons_zero, List.set_cons_succ, Nat.zero_add, Nat.reduceAdd]
                      rw [h45]
                      clear h45
                      have HB6 := Lib.hid (HB5.out.trans (hBz.mono HB5.out.size))
                      clear hBz
                      go_wp2
                      exact ⟨⟨j + 1, z1, HJ.out, HZ1.out, by rw [fw], HB6.out⟩, by have := HJ.out; have := HZJ.out; have := HZ1.out; simp only [intOf]; omega⟩
                  · have hp : isP many z = false := by simpa using hp
                    have HPE := Lib.hid (peer_any z HTj.out HMM.out.2.1)
                    rw [hp, show atP many G z = (0, 0) by simp [atP, hp]] at HPE
                    have HAWD : Hid (isAway many G z = false) := by show _ = _; simp [isAway, hp]
                    have hor : z < 0 ∨ (0 ≤ z ∧ (many : Int) ≤ z) := by
                      rw [isP, decide_eq_false_iff_not] at hp
                      omega
                    clear hz hj hz1 hp
                    rcases hor with n0 | ⟨n0, n1⟩
                    · have n2 : decide (0 ≤ z) = false := decide_eq_false (by omega)
                      go_upto_region 35 with (first
                        | (go_at_call 10; refine HPE.out.mono ?_; rintro e w24 ⟨rfl, hB24⟩)
                        | ((with_reducible refine at_alloc 31 ?_); refine wpList_alloc_zero rfl 31 rfl _ alloc_peer ?_)
                        | ((with_reducible refine at_store 31 ?_); refine wpList_store_row rfl 31 _ _ rfl _ (peerC (0, 0)) rfl rfl _ _ (heap_alloc_new _ _) (info_peer _) (size_peer _ _) (one_peer _) ?_))
                      have hB25 : Below w24.heap.size w24 ((w24.alloc (.cells (peerC (0, 0)) 31)).setRow w24.heap.size (peerC (0, 0))) := below_setRow ((Below.refl _ w24).alloc (Nat.le_refl _) _) (Nat.le_refl _) _
                      have k5 := heap_setRow (heap_alloc_new w24 (.cells (peerC (0, 0)) 31)) (peerC (0, 0))
                      generalize (w24.alloc (.cells (peerC (0, 0)) 31)).setRow w24.heap.size (peerC (0, 0)) = w25 at *
                      obtain ⟨Q5, hQ5⟩ : ∃ Q, Q = w24.heap.size := ⟨_, rfl⟩
                      rw [← hQ5] at k5 ⊢
                      have hBa := hB24.trans (hB25.mono hB24.size)
                      have HT5 := Lib.hid (HTj.out.later hBa)
                      have HR5 := Lib.hid (HRj.out.later hBa)
                      have KP5 := Lib.hid ((hBa.block P (Array.getElem?_eq_some_iff.1 KPj.out).1).trans KPj.out)
                      have HB5 := Lib.hid (HBj.out.trans (hBa.mono HBj.out.size))
                      have CP2 : Hid (w25.cell? ⟨P, 2, none⟩ = some (.slice (some ⟨g8, 0, none⟩) many c8)) := by show _ = _; rw [cell_of_row _ _ _ _ _ _ KP5.out]; rfl
                      have cp2 := CP2.out
                      have C50 := Lib.hid (peer_cell0 k5)
                      have C51 := Lib.hid (peer_cell1 k5)
                      clear hB24 hB25 k5 hQ5 hBa HPE s2
                      go_upto_region 36 with fail
                      clear n0 n2 cp2 hzm
                      refine Each.region_all (by kernel_rfl) (by kernel_rfl) (by kernel_rfl) (fun _ w1 => Below w25.heap.size w25 w1) (fun _ w w' => Below w.heap.size w w') (Each.nth [fun v _ => v = .bool false, fun v _ => v = .bool false, fun v _ => v = .bool false, fun v _ => v = .bool false, fun v _ => v = .bool false, fun v _ => v = .bool false, fun _ _ => True, fun _ _ => True, fun _ _ => True, fun _ _ => True, fun _ _ => True, fun _ _ => True, fun _ _ => True, fun _ _ => True, fun _ _ => True, fun v _ => v = undef, fun _ _ => True, fun _ _ => True, fun _ _ => True, fun _ _ => True, fun _ _ => True, fun _ _ => True, fun _ _ => True, fun _ _ => True, fun _ _ => True, fun _ _ => True, fun v _ => v = undef, fun _ _ => True, fun _ _ => True, fun _ _ => True, fun _ _ => True, fun _ _ => True, fun _ _ => True, fun _ _ => True, fun _ _ => True, fun v _ => v = .bool false, fun v _ => v = .bool false, fun v _ => v = .bool false, fun v _ => v = .bool false, fun v _ => v = .bool true, fun v _ => v = .bool true, fun v _ => v = .pointer (some ⟨tb, 0, none⟩), fun v _ => v = .int .i64 z, fun v _ => v = .bool false, fun v _ => v = .bool false, fun v _ => v = .bool false]) (fun _ w => Below.refl _ _) (fun _ _ _ _ h => h) ?stab2 ((Below.refl _ _).drew) ?hob2 ?hend2
                      case stab2 =>
                        refine Each.nth_stab _ ?_
                        refine Each.stab_cons (fun _ _ _ _ _ _ _ e => e) ?_
                        refine Each.stab_cons (fun _ _ _ _ _ _ _ e => e) ?_
                        refine Each.stab_cons (fun _ _ _ _ _ _ _ e => e) ?_
                        refine Each.stab_cons (fun _ _ _ _ _ _ _ e => e) ?_
                        refine Each.stab_cons (fun _ _ _ _ _ _ _ e => e) ?_
                        refine Each.stab_cons (fun _ _ _ _ _ _ _ e => e) ?_
                        refine Each.stab_cons (fun _ _ _ _ _ _ _ e => e) ?_
                        refine Each.stab_cons (fun _ _ _ _ _ _ _ e => e) ?_
                        refine Each.stab_cons (fun _ _ _ _ _ _ _ e => e) ?_
                        refine Each.stab_cons (fun _ _ _ _ _ _ _ e => e) ?_
                        refine Each.stab_cons (fun _ _ _ _ _ _ _ e => e) ?_
                        refine Each.stab_cons (fun _ _ _ _ _ _ _ e => e) ?_
                        refine Each.stab_cons (fun _ _ _ _ _ _ _ e => e) ?_
                        refine Each.stab_cons (fun _ _ _ _ _ _ _ e => e) ?_
                        refine Each.stab_cons (fun _ _ _ _ _ _ _ e => e) ?_
                        refine Each.stab_cons (fun _ _ _ _ _ _ _ e => e) ?_
                        refine Each.stab_cons (fun _ _ _ _ _ _ _ e => e) ?_
                        refine Each.stab_cons (fun _ _ _ _ _ _ _ e => e) ?_
                        refine Each.stab_cons (fun _ _ _ _ _ _ _ e => e) ?_
                        refine Each.stab_cons (fun _ _ _ _ _ _ _ e => e) ?_
                        refine Each.stab_cons (fun _ _ _ _ _ _ _ e => e) ?_
                        refine Each.stab_cons (fun _ _ _ _ _ _ _ e => e) ?_
                        refine Each.stab_cons (fun _ _ _ _ _ _ _ e => e) ?_
                        refine Each.stab_cons (fun _ _ _ _ _ _ _ e => e) ?_
                        refine Each.stab_cons (fun _ _ _ _ _ _ _ e => e) ?_
                        refine Each.stab_cons (fun _ _ _ _ _ _ _ e => e) ?_
                        refine Each.stab_cons (fun _ _ _ _ _ _ _ e => e) ?_
                        refine Each.stab_cons (fun _ _ _ _ _ _ _ e => e) ?_
                        refine Each.stab_cons (fun _ _ _ _ _ _ _ e => e) ?_
                        refine Each.stab_cons (fun _ _ _ _ _ _ _ e => e) ?_
                        refine Each.stab_cons (fun _ _ _ _ _ _ _ e => e) ?_
                        refine Each.stab_cons (fun _ _ _ _ _ _ _ e => e) ?_
                        refine Each.stab_cons (fun _ _ _ _ _ _ _ e => e) ?_
                        refine Each.stab_cons (fun _ _ _ _ _ _ _ e => e) ?_
                        refine Each.stab_cons (fun _ _ _ _ _ _ _ e => e) ?_
                        refine Each.stab_cons (fun _ _ _ _ _ _ _ e => e) ?_
                        refine Each.stab_cons (fun _ _ _ _ _ _ _ e => e) ?_
                        refine Each.stab_cons (fun _ _ _ _ _ _ _ e => e) ?_
                        refine Each.stab_cons (fun _ _ _ _ _ _ _ e => e) ?_
                        refine Each.stab_cons (fun _ _ _ _ _ _ _ e => e) ?_
                        refine Each.stab_cons (fun _ _ _ _ _ _ _ e => e) ?_
                        refine Each.stab_cons (fun _ _ _ _ _ _ _ e => e) ?_
                        refine Each.stab_cons (fun _ _ _ _ _ _ _ e => e) ?_
                        refine Each.stab_cons (fun _ _ _ _ _ _ _ e => e) ?_
                        refine Each.stab_cons (fun _ _ _ _ _ _ _ e => e) ?_
                        refine Each.stab_cons (fun _ _ _ _ _ _ _ e => e) ?_
                        exact Each.stab_nil
                      case hob2 =>
                        refine Each.obvs_cons (Each.obv_val (fun w => Below.refl _ _) (fun _ _ h => h) _ (fun ev vs dn w1 he hk hg hfn hI hf hc hd => ⟨trivial, ?_, rfl⟩)) ?_
                        · have e28 : ev (.tmp 28) = .bool false := (he 28).trans (by kernel_rfl)
                          clear hd hf hc he
                          go_simp
                          try first | exact IntWalk.i64_in _ (by omega) | exact IntWalk.u64_in _ (by omega) | exact IntWalk.u32_in _ (by omega)
                        refine Each.obvs_cons (Each.obv_val (fun w => Below.refl _ _) (fun _ _ h => h) _ (fun ev vs dn w1 he hk hg hfn hI hf hc hd => ⟨trivial, ?_, rfl⟩)) ?_
                        · have e29 : ev (.tmp 29) = .bool false := (he 29).trans (by kernel_rfl)
                          clear hd hf hc he
                          go_simp
                          try first | exact IntWalk.i64_in _ (by omega) | exact IntWalk.u64_in _ (by omega) | exact IntWalk.u32_in _ (by omega)
                        refine Each.obvs_cons (Each.obv_val (fun w => Below.refl _ _) (fun _ _ h => h) _ (fun ev vs dn w1 he hk hg hfn hI hf hc hd => ⟨trivial, ?_, rfl⟩)) ?_
                        · have h0 : vs 0 = _ := hd 0 (by decide)
                          have h1 : vs 1 = _ := hd 1 (by decide)
                          have e173 : ev (.tmp 173) = vs 0 := (he 173).trans (by kernel_rfl)
                          rw [h0] at e173
                          have e174 : ev (.tmp 174) = vs 1 := (he 174).trans (by kernel_rfl)
                          rw [h1] at e174
                          clear hd hf hc he
                          clear h0 h1
                          go_simp
                          try first | exact IntWalk.i64_in _ (by omega) | exact IntWalk.u64_in _ (by omega) | exact IntWalk.u32_in _ (by omega)
                        refine Each.obvs_cons (Each.obv_val (fun w => Below.refl _ _) (fun _ _ h => h) _ (fun ev vs dn w1 he hk hg hfn hI hf hc hd => ⟨trivial, ?_, rfl⟩)) ?_
                        · have h2 : vs 2 = _ := hd 2 (by decide)
                          have e175 : ev (.tmp 175) = vs 2 := (he 175).trans (by kernel_rfl)
                          rw [h2] at e175
                          clear hd hf hc he
                          clear h2
                          go_simp
                          try first | exact IntWalk.i64_in _ (by omega) | exact IntWalk.u64_in _ (by omega) | exact IntWalk.u32_in _ (by omega)
                        refine Each.obvs_cons (Each.obv_val (fun w => Below.refl _ _) (fun _ _ h => h) _ (fun ev vs dn w1 he hk hg hfn hI hf hc hd => ⟨hd 3 (by decide), ?_, rfl⟩)) ?_
                        · have h3 : vs 3 = _ := hd 3 (by decide)
                          have e29 : ev (.tmp 29) = .bool false := (he 29).trans (by kernel_rfl)
                          clear hd hf hc he
                          clear h3
                          go_simp
                          try first | exact IntWalk.i64_in _ (by omega) | exact IntWalk.u64_in _ (by omega) | exact IntWalk.u32_in _ (by omega)
                        refine Each.obvs_cons (Each.obv_val (fun w => Below.refl _ _) (fun _ _ h => h) _ (fun ev vs dn w1 he hk hg hfn hI hf hc hd => ⟨hd 3 (by decide), ?_, rfl⟩)) ?_
                        · have h3 : vs 3 = _ := hd 3 (by decide)
                          have h4 : vs 4 = _ := hd 4 (by decide)
                          have e177 : ev (.tmp 177) = vs 4 := (he 177).trans (by kernel_rfl)
                          rw [h4] at e177
                          clear hd hf hc he
                          clear h3 h4
                          go_simp
                          try first | exact IntWalk.i64_in _ (by omega) | exact IntWalk.u64_in _ (by omega) | exact IntWalk.u32_in _ (by omega)
                        refine Each.obvs_cons (Each.obv_skip 5 true rfl (fun vs dn w1 hI hf hc hd => ⟨hd 5 (by decide), trivial⟩)) ?_
                        refine Each.obvs_cons (Each.obv_skip 5 true rfl (fun vs dn w1 hI hf hc hd => ⟨hd 5 (by decide), trivial⟩)) ?_
                        refine Each.obvs_cons (Each.obv_skip 5 true rfl (fun vs dn w1 hI hf hc hd => ⟨hd 5 (by decide), trivial⟩)) ?_
                        refine Each.obvs_cons (Each.obv_skip 5 true rfl (fun vs dn w1 hI hf hc hd => ⟨hd 5 (by decide), trivial⟩)) ?_
                        refine Each.obvs_cons (Each.obv_skip 5 true rfl (fun vs dn w1 hI hf hc hd => ⟨hd 5 (by decide), trivial⟩)) ?_
                        refine Each.obvs_cons (Each.obv_skip 5 true rfl (fun vs dn w1 hI hf hc hd => ⟨hd 5 (by decide), trivial⟩)) ?_
                        refine Each.obvs_cons (Each.obv_skip 5 true rfl (fun vs dn w1 hI hf hc hd => ⟨hd 5 (by decide), trivial⟩)) ?_
                        refine Each.obvs_cons (Each.obv_skip 5 true rfl (fun vs dn w1 hI hf hc hd => ⟨hd 5 (by decide), trivial⟩)) ?_
                        refine Each.obvs_cons (Each.obv_skip 5 true rfl (fun vs dn w1 hI hf hc hd => ⟨hd 5 (by decide), trivial⟩)) ?_
                        refine Each.obvs_cons (Each.obv_skip 5 true rfl (fun vs dn w1 hI hf hc hd => ⟨hd 5 (by decide), rfl⟩)) ?_
                        refine Each.obvs_cons (Each.obv_none 15 false rfl (fun vs dn w1 hI hf hc hd => ⟨hd 15 (by decide), trivial⟩)) ?_
                        refine Each.obvs_cons (Each.obv_none 15 false rfl (fun vs dn w1 hI hf hc hd => ⟨hd 15 (by decide), trivial⟩)) ?_
                        refine Each.obvs_cons (Each.obv_none 15 false rfl (fun vs dn w1 hI hf hc hd => ⟨hd 15 (by decide), trivial⟩)) ?_
                        refine Each.obvs_cons (Each.obv_none 15 false rfl (fun vs dn w1 hI hf hc hd => ⟨hd 15 (by decide), trivial⟩)) ?_
                        refine Each.obvs_cons (Each.obv_none 15 false rfl (fun vs dn w1 hI hf hc hd => ⟨hd 15 (by decide), trivial⟩)) ?_
                        refine Each.obvs_cons (Each.obv_none 15 false rfl (fun vs dn w1 hI hf hc hd => ⟨hd 15 (by decide), trivial⟩)) ?_
                        refine Each.obvs_cons (Each.obv_none 15 false rfl (fun vs dn w1 hI hf hc hd => ⟨hd 15 (by decide), trivial⟩)) ?_
                        refine Each.obvs_cons (Each.obv_none 15 false rfl (fun vs dn w1 hI hf hc hd => ⟨hd 15 (by decide), trivial⟩)) ?_
                        refine Each.obvs_cons (Each.obv_none 15 false rfl (fun vs dn w1 hI hf hc hd => ⟨hd 15 (by decide), trivial⟩)) ?_
                        refine Each.obvs_cons (Each.obv_skip 5 true rfl (fun vs dn w1 hI hf hc hd => ⟨hd 5 (by decide), trivial⟩)) ?_
                        refine Each.obvs_cons (Each.obv_skip 5 true rfl (fun vs dn w1 hI hf hc hd => ⟨hd 5 (by decide), rfl⟩)) ?_
                        refine Each.obvs_cons (Each.obv_none 26 false rfl (fun vs dn w1 hI hf hc hd => ⟨hd 26 (by decide), trivial⟩)) ?_
                        refine Each.obvs_cons (Each.obv_none 26 false rfl (fun vs dn w1 hI hf hc hd => ⟨hd 26 (by decide), trivial⟩)) ?_
                        refine Each.obvs_cons (Each.obv_none 26 false rfl (fun vs dn w1 hI hf hc hd => ⟨hd 26 (by decide), trivial⟩)) ?_
                        refine Each.obvs_cons (Each.obv_none 26 false rfl (fun vs dn w1 hI hf hc hd => ⟨hd 26 (by decide), trivial⟩)) ?_
                        refine Each.obvs_cons (Each.obv_none 26 false rfl (fun vs dn w1 hI hf hc hd => ⟨hd 26 (by decide), trivial⟩)) ?_
                        refine Each.obvs_cons (Each.obv_none 26 false rfl (fun vs dn w1 hI hf hc hd => ⟨hd 26 (by decide), trivial⟩)) ?_
                        refine Each.obvs_cons (Each.obv_none 26 false rfl (fun vs dn w1 hI hf hc hd => ⟨hd 26 (by decide), trivial⟩)) ?_
                        refine Each.obvs_cons (Each.obv_skip 5 true rfl (fun vs dn w1 hI hf hc hd => ⟨hd 5 (by decide), trivial⟩)) ?_
                        refine Each.obvs_cons (Each.obv_val (fun w => Below.refl _ _) (fun _ _ h => h) _ (fun ev vs dn w1 he hk hg hfn hI hf hc hd => ⟨hd 3 (by decide), ?_, rfl⟩)) ?_
                        · have h3 : vs 3 = _ := hd 3 (by decide)
                          have h5 : vs 5 = _ := hd 5 (by decide)
                          have e178 : ev (.tmp 178) = vs 5 := (he 178).trans (by kernel_rfl)
                          rw [h5] at e178
                          have e207 : ev (.tmp 207) = vs 34 := (he 207).trans (by kernel_rfl)
                          clear hd hf hc he
                          clear h3 h5
                          go_simp
                          try first | exact IntWalk.i64_in _ (by omega) | exact IntWalk.u64_in _ (by omega) | exact IntWalk.u32_in _ (by omega)
                        refine Each.obvs_cons (Each.obv_val (fun w => Below.refl _ _) (fun _ _ h => h) _ (fun ev vs dn w1 he hk hg hfn hI hf hc hd => ⟨trivial, ?_, rfl⟩)) ?_
                        · have h3 : vs 3 = _ := hd 3 (by decide)
                          have h35 : vs 35 = _ := hd 35 (by decide)
                          have e176 : ev (.tmp 176) = vs 3 := (he 176).trans (by kernel_rfl)
                          rw [h3] at e176
                          have e208 : ev (.tmp 208) = vs 35 := (he 208).trans (by kernel_rfl)
                          rw [h35] at e208
                          clear hd hf hc he
                          clear h3 h35
                          go_simp
                          try first | exact IntWalk.i64_in _ (by omega) | exact IntWalk.u64_in _ (by omega) | exact IntWalk.u32_in _ (by omega)
                        refine Each.obvs_cons (Each.obv_val (fun w => Below.refl _ _) (fun _ _ h => h) _ (fun ev vs dn w1 he hk hg hfn hI hf hc hd => ⟨trivial, ?_, rfl⟩)) ?_
                        · have h36 : vs 36 = _ := hd 36 (by decide)
                          have e209 : ev (.tmp 209) = vs 36 := (he 209).trans (by kernel_rfl)
                          rw [h36] at e209
                          clear hd hf hc he
                          clear h36
                          go_simp
                          try first | exact IntWalk.i64_in _ (by omega) | exact IntWalk.u64_in _ (by omega) | exact IntWalk.u32_in _ (by omega)
                        refine Each.obvs_cons (Each.obv_val (fun w => Below.refl _ _) (fun _ _ h => h) _ (fun ev vs dn w1 he hk hg hfn hI hf hc hd => ⟨hd 37 (by decide), ?_, rfl⟩)) ?_
                        · have h37 : vs 37 = _ := hd 37 (by decide)
                          have e29 : ev (.tmp 29) = .bool false := (he 29).trans (by kernel_rfl)
                          clear hd hf hc he
                          clear h37
                          go_simp
                          try first | exact IntWalk.i64_in _ (by omega) | exact IntWalk.u64_in _ (by omega) | exact IntWalk.u32_in _ (by omega)
                        refine Each.obvs_cons (Each.obv_val (fun w => Below.refl _ _) (fun _ _ h => h) _ (fun ev vs dn w1 he hk hg hfn hI hf hc hd => ⟨hd 37 (by decide), ?_, rfl⟩)) ?_
                        · have h37 : vs 37 = _ := hd 37 (by decide)
                          have h38 : vs 38 = _ := hd 38 (by decide)
                          have e211 : ev (.tmp 211) = vs 38 := (he 211).trans (by kernel_rfl)
                          rw [h38] at e211
                          clear hd hf hc he
                          clear h37 h38
                          go_simp
                          try first | exact IntWalk.i64_in _ (by omega) | exact IntWalk.u64_in _ (by omega) | exact IntWalk.u32_in _ (by omega)
                        refine Each.obvs_cons (Each.obv_val (fun w => Below.refl _ _) (fun _ _ h => h) _ (fun ev vs dn w1 he hk hg hfn hI hf hc hd => ⟨hd 37 (by decide), ?_, rfl⟩)) ?_
                        · have h37 : vs 37 = _ := hd 37 (by decide)
                          have h39 : vs 39 = _ := hd 39 (by decide)
                          have e212 : ev (.tmp 212) = vs 39 := (he 212).trans (by kernel_rfl)
                          rw [h39] at e212
                          clear hd hf hc he
                          clear h37 h39
                          go_simp
                          try first | exact IntWalk.i64_in _ (by omega) | exact IntWalk.u64_in _ (by omega) | exact IntWalk.u32_in _ (by omega)
                        refine Each.obvs_cons (Each.obv_val (fun w => Below.refl _ _) (fun _ _ h => h) _ (fun ev vs dn w1 he hk hg hfn hI hf hc hd => ⟨hd 40 (by decide), ?_, rfl⟩)) ?_
                        · have h40 : vs 40 = _ := hd 40 (by decide)
                          have e10 : ev (.tmp 10) = .pointer (some ⟨tb, 0, none⟩) := (he 10).trans (by kernel_rfl)
                          clear hd hf hc he
                          clear h40
                          go_simp
                          try first | exact IntWalk.i64_in _ (by omega) | exact IntWalk.u64_in _ (by omega) | exact IntWalk.u32_in _ (by omega)
                        refine Each.obvs_cons (Each.obv_val (fun w => Below.refl _ _) (fun _ _ h => h) _ (fun ev vs dn w1 he hk hg hfn hI hf hc hd => ⟨hd 40 (by decide), ?_, rfl⟩)) ?_
                        · have h40 : vs 40 = _ := hd 40 (by decide)
                          have e26 : ev (.tmp 26) = .int .i64 z := (he 26).trans (by kernel_rfl)
                          clear hd hf hc he
                          clear h40
                          go_simp
                          try first | exact IntWalk.i64_in _ (by omega) | exact IntWalk.u64_in _ (by omega) | exact IntWalk.u32_in _ (by omega)
                        refine Each.obvs_cons (Each.obv_call (fun ev vs dn w1 he hk hg hfn hI hf hc hd => ⟨hd 40 (by decide), 12, #[.pointer (some ⟨tb, 0, none⟩), .int .i64 z], ?_, ?_⟩)) ?_
                        · have h40 : vs 40 = _ := hd 40 (by decide)
                          have h41 : vs 41 = _ := hd 41 (by decide)
                          have h42 : vs 42 = _ := hd 42 (by decide)
                          have e214 : ev (.tmp 214) = vs 41 := (he 214).trans (by kernel_rfl)
                          rw [h41] at e214
                          have e215 : ev (.tmp 215) = vs 42 := (he 215).trans (by kernel_rfl)
                          rw [h42] at e215
                          clear hd hf hc he
                          clear h40 h41 h42
                          go_simp
                          try first | exact IntWalk.i64_in _ (by omega) | exact IntWalk.u64_in _ (by omega) | exact IntWalk.u32_in _ (by omega)
                        · have h40 : vs 40 = _ := hd 40 (by decide)
                          have h41 : vs 41 = _ := hd 41 (by decide)
                          have h42 : vs 42 = _ := hd 42 (by decide)
                          clear hd hf hc he hk hg hfn
                          refine (away_any z (HT5.out.later hI) HMM.out.2.1).mono ?_
                          rintro e w2 ⟨rfl, rfl⟩
                          rw [HAWD.out]
                          exact ⟨_, rfl, hI, Below.refl _ _, rfl⟩
                        refine Each.obvs_cons (Each.obv_val (fun w => Below.refl _ _) (fun _ _ h => h) _ (fun ev vs dn w1 he hk hg hfn hI hf hc hd => ⟨hd 37 (by decide), ?_, rfl⟩)) ?_
                        · have h37 : vs 37 = _ := hd 37 (by decide)
                          have h40 : vs 40 = _ := hd 40 (by decide)
                          have h43 : vs 43 = _ := hd 43 (by decide)
                          have e213 : ev (.tmp 213) = vs 40 := (he 213).trans (by kernel_rfl)
                          rw [h40] at e213
                          have e216 : ev (.tmp 216) = vs 43 := (he 216).trans (by kernel_rfl)
                          rw [h43] at e216
                          clear hd hf hc he
                          clear h37 h40 h43
                          go_simp
                          try first | exact IntWalk.i64_in _ (by omega) | exact IntWalk.u64_in _ (by omega) | exact IntWalk.u32_in _ (by omega)
                        refine Each.obvs_cons (Each.obv_val (fun w => Below.refl _ _) (fun _ _ h => h) _ (fun ev vs dn w1 he hk hg hfn hI hf hc hd => ⟨trivial, ?_, rfl⟩)) ?_
                        · have h37 : vs 37 = _ := hd 37 (by decide)
                          have h44 : vs 44 = _ := hd 44 (by decide)
                          have e210 : ev (.tmp 210) = vs 37 := (he 210).trans (by kernel_rfl)
                          rw [h37] at e210
                          have e217 : ev (.tmp 217) = vs 44 := (he 217).trans (by kernel_rfl)
                          rw [h44] at e217
                          clear hd hf hc he
                          clear h37 h44
                          go_simp
                          try first | exact IntWalk.i64_in _ (by omega) | exact IntWalk.u64_in _ (by omega) | exact IntWalk.u32_in _ (by omega)
                        exact Each.obvs_nil
                      case hend2 =>
                        intro vs dn wz hI hR
                        have h45 : vs 45 = _ := hR 45 (by decide)
                        have hBz : Below w25.heap.size w25 wz := hI
                        clear hR hI
                        simp only [Each.puts, Act.put, List.setIfInBounds_toArray, List.set_cons_zero, List.set_cons_succ, Nat.zero_add, Nat.reduceAdd]
                        rw [h45]
                        clear h45
                        have HB6 := Lib.hid (HB5.out.trans (hBz.mono HB5.out.size))
                        clear hBz
                        go_wp2
                        exact ⟨⟨j + 1, z1, HJ.out, HZ1.out, by rw [fw], HB6.out⟩, by have := HJ.out; have := HZJ.out; have := HZ1.out; simp only [intOf]; omega⟩
                    · have n2 : decide (z < (many : Int)) = false := decide_eq_false (by omega)
                      go_upto_region 35 with (first
                        | (go_at_call 10; refine HPE.out.mono ?_; rintro e w24 ⟨rfl, hB24⟩)
                        | ((with_reducible refine at_alloc 31 ?_); refine wpList_alloc_zero rfl 31 rfl _ alloc_peer ?_)
                        | ((with_reducible refine at_store 31 ?_); refine wpList_store_row rfl 31 _ _ rfl _ (peerC (0, 0)) rfl rfl _ _ (heap_alloc_new _ _) (info_peer _) (size_peer _ _) (one_peer _) ?_))
                      have hB25 : Below w24.heap.size w24 ((w24.alloc (.cells (peerC (0, 0)) 31)).setRow w24.heap.size (peerC (0, 0))) := below_setRow ((Below.refl _ w24).alloc (Nat.le_refl _) _) (Nat.le_refl _) _
                      have k5 := heap_setRow (heap_alloc_new w24 (.cells (peerC (0, 0)) 31)) (peerC (0, 0))
                      generalize (w24.alloc (.cells (peerC (0, 0)) 31)).setRow w24.heap.size (peerC (0, 0)) = w25 at *
                      obtain ⟨Q5, hQ5⟩ : ∃ Q, Q = w24.heap.size := ⟨_, rfl⟩
                      rw [← hQ5] at k5 ⊢
                      have hBa := hB24.trans (hB25.mono hB24.size)
                      have HT5 := Lib.hid (HTj.out.later hBa)
                      have HR5 := Lib.hid (HRj.out.later hBa)
                      have KP5 := Lib.hid ((hBa.block P (Array.getElem?_eq_some_iff.1 KPj.out).1).trans KPj.out)
                      have HB5 := Lib.hid (HBj.out.trans (hBa.mono HBj.out.size))
                      have CP2 : Hid (w25.cell? ⟨P, 2, none⟩ = some (.slice (some ⟨g8, 0, none⟩) many c8)) := by show _ = _; rw [cell_of_row _ _ _ _ _ _ KP5.out]; rfl
                      have cp2 := CP2.out
                      have C50 := Lib.hid (peer_cell0 k5)
                      have C51 := Lib.hid (peer_cell1 k5)
                      clear hB24 hB25 k5 hQ5 hBa HPE s2
                      go_upto_region 36 with fail
                      clear n0 n1 n2 cp2 hzm
                      refine Each.region_all (by kernel_rfl) (by kernel_rfl) (by kernel_rfl) (fun _ w1 => Below w25.heap.size w25 w1) (fun _ w w' => Below w.heap.size w w') (Each.nth [fun v _ => v = .bool false, fun v _ => v = .bool false, fun v _ => v = .bool false, fun v _ => v = .bool false, fun v _ => v = .bool false, fun v _ => v = .bool false, fun _ _ => True, fun _ _ => True, fun _ _ => True, fun _ _ => True, fun _ _ => True, fun _ _ => True, fun _ _ => True, fun _ _ => True, fun _ _ => True, fun v _ => v = undef, fun _ _ => True, fun _ _ => True, fun _ _ => True, fun _ _ => True, fun _ _ => True, fun _ _ => True, fun _ _ => True, fun _ _ => True, fun _ _ => True, fun _ _ => True, fun v _ => v = undef, fun _ _ => True, fun _ _ => True, fun _ _ => True, fun _ _ => True, fun _ _ => True, fun _ _ => True, fun _ _ => True, fun _ _ => True, fun v _ => v = .bool false, fun v _ => v = .bool false, fun v _ => v = .bool false, fun v _ => v = .bool false, fun v _ => v = .bool true, fun v _ => v = .bool true, fun v _ => v = .pointer (some ⟨tb, 0, none⟩), fun v _ => v = .int .i64 z, fun v _ => v = .bool false, fun v _ => v = .bool false, fun v _ => v = .bool false]) (fun _ w => Below.refl _ _) (fun _ _ _ _ h => h) ?stab3 ((Below.refl _ _).drew) ?hob3 ?hend3
                      case stab3 =>
                        refine Each.nth_stab _ ?_
                        refine Each.stab_cons (fun _ _ _ _ _ _ _ e => e) ?_
                        refine Each.stab_cons (fun _ _ _ _ _ _ _ e => e) ?_
                        refine Each.stab_cons (fun _ _ _ _ _ _ _ e => e) ?_
                        refine Each.stab_cons (fun _ _ _ _ _ _ _ e => e) ?_
                        refine Each.stab_cons (fun _ _ _ _ _ _ _ e => e) ?_
                        refine Each.stab_cons (fun _ _ _ _ _ _ _ e => e) ?_
                        refine Each.stab_cons (fun _ _ _ _ _ _ _ e => e) ?_
                        refine Each.stab_cons (fun _ _ _ _ _ _ _ e => e) ?_
                        refine Each.stab_cons (fun _ _ _ _ _ _ _ e => e) ?_
                        refine Each.stab_cons (fun _ _ _ _ _ _ _ e => e) ?_
                        refine Each.stab_cons (fun _ _ _ _ _ _ _ e => e) ?_
                        refine Each.stab_cons (fun _ _ _ _ _ _ _ e => e) ?_
                        refine Each.stab_cons (fun _ _ _ _ _ _ _ e => e) ?_
                        refine Each.stab_cons (fun _ _ _ _ _ _ _ e => e) ?_
                        refine Each.stab_cons (fun _ _ _ _ _ _ _ e => e) ?_
                        refine Each.stab_cons (fun _ _ _ _ _ _ _ e => e) ?_
                        refine Each.stab_cons (fun _ _ _ _ _ _ _ e => e) ?_
                        refine Each.stab_cons (fun _ _ _ _ _ _ _ e => e) ?_
                        refine Each.stab_cons (fun _ _ _ _ _ _ _ e => e) ?_
                        refine Each.stab_cons (fun _ _ _ _ _ _ _ e => e) ?_
                        refine Each.stab_cons (fun _ _ _ _ _ _ _ e => e) ?_
                        refine Each.stab_cons (fun _ _ _ _ _ _ _ e => e) ?_
                        refine Each.stab_cons (fun _ _ _ _ _ _ _ e => e) ?_
                        refine Each.stab_cons (fun _ _ _ _ _ _ _ e => e) ?_
                        refine Each.stab_cons (fun _ _ _ _ _ _ _ e => e) ?_
                        refine Each.stab_cons (fun _ _ _ _ _ _ _ e => e) ?_
                        refine Each.stab_cons (fun _ _ _ _ _ _ _ e => e) ?_
                        refine Each.stab_cons (fun _ _ _ _ _ _ _ e => e) ?_
                        refine Each.stab_cons (fun _ _ _ _ _ _ _ e => e) ?_
                        refine Each.stab_cons (fun _ _ _ _ _ _ _ e => e) ?_
                        refine Each.stab_cons (fun _ _ _ _ _ _ _ e => e) ?_
                        refine Each.stab_cons (fun _ _ _ _ _ _ _ e => e) ?_
                        refine Each.stab_cons (fun _ _ _ _ _ _ _ e => e) ?_
                        refine Each.stab_cons (fun _ _ _ _ _ _ _ e => e) ?_
                        refine Each.stab_cons (fun _ _ _ _ _ _ _ e => e) ?_
                        refine Each.stab_cons (fun _ _ _ _ _ _ _ e => e) ?_
                        refine Each.stab_cons (fun _ _ _ _ _ _ _ e => e) ?_
                        refine Each.stab_cons (fun _ _ _ _ _ _ _ e => e) ?_
                        refine Each.stab_cons (fun _ _ _ _ _ _ _ e => e) ?_
                        refine Each.stab_cons (fun _ _ _ _ _ _ _ e => e) ?_
                        refine Each.stab_cons (fun _ _ _ _ _ _ _ e => e) ?_
                        refine Each.stab_cons (fun _ _ _ _ _ _ _ e => e) ?_
                        refine Each.stab_cons (fun _ _ _ _ _ _ _ e => e) ?_
                        refine Each.stab_cons (fun _ _ _ _ _ _ _ e => e) ?_
                        refine Each.stab_cons (fun _ _ _ _ _ _ _ e => e) ?_
                        refine Each.stab_cons (fun _ _ _ _ _ _ _ e => e) ?_
                        exact Each.stab_nil
                      case hob3 =>
                        refine Each.obvs_cons (Each.obv_val (fun w => Below.refl _ _) (fun _ _ h => h) _ (fun ev vs dn w1 he hk hg hfn hI hf hc hd => ⟨trivial, ?_, rfl⟩)) ?_
                        · have e28 : ev (.tmp 28) = .bool false := (he 28).trans (by kernel_rfl)
                          clear hd hf hc he
                          go_simp
                          try first | exact IntWalk.i64_in _ (by omega) | exact IntWalk.u64_in _ (by omega) | exact IntWalk.u32_in _ (by omega)
                        refine Each.obvs_cons (Each.obv_val (fun w => Below.refl _ _) (fun _ _ h => h) _ (fun ev vs dn w1 he hk hg hfn hI hf hc hd => ⟨trivial, ?_, rfl⟩)) ?_
                        · have e29 : ev (.tmp 29) = .bool false := (he 29).trans (by kernel_rfl)
                          clear hd hf hc he
                          go_simp
                          try first | exact IntWalk.i64_in _ (by omega) | exact IntWalk.u64_in _ (by omega) | exact IntWalk.u32_in _ (by omega)
                        refine Each.obvs_cons (Each.obv_val (fun w => Below.refl _ _) (fun _ _ h => h) _ (fun ev vs dn w1 he hk hg hfn hI hf hc hd => ⟨trivial, ?_, rfl⟩)) ?_
                        · have h0 : vs 0 = _ := hd 0 (by decide)
                          have h1 : vs 1 = _ := hd 1 (by decide)
                          have e173 : ev (.tmp 173) = vs 0 := (he 173).trans (by kernel_rfl)
                          rw [h0] at e173
                          have e174 : ev (.tmp 174) = vs 1 := (he 174).trans (by kernel_rfl)
                          rw [h1] at e174
                          clear hd hf hc he
                          clear h0 h1
                          go_simp
                          try first | exact IntWalk.i64_in _ (by omega) | exact IntWalk.u64_in _ (by omega) | exact IntWalk.u32_in _ (by omega)
                        refine Each.obvs_cons (Each.obv_val (fun w => Below.refl _ _) (fun _ _ h => h) _ (fun ev vs dn w1 he hk hg hfn hI hf hc hd => ⟨trivial, ?_, rfl⟩)) ?_
                        · have h2 : vs 2 = _ := hd 2 (by decide)
                          have e175 : ev (.tmp 175) = vs 2 := (he 175).trans (by kernel_rfl)
                          rw [h2] at e175
                          clear hd hf hc he
                          clear h2
                          go_simp
                          try first | exact IntWalk.i64_in _ (by omega) | exact IntWalk.u64_in _ (by omega) | exact IntWalk.u32_in _ (by omega)
                        refine Each.obvs_cons (Each.obv_val (fun w => Below.refl _ _) (fun _ _ h => h) _ (fun ev vs dn w1 he hk hg hfn hI hf hc hd => ⟨hd 3 (by decide), ?_, rfl⟩)) ?_
                        · have h3 : vs 3 = _ := hd 3 (by decide)
                          have e29 : ev (.tmp 29) = .bool false := (he 29).trans (by kernel_rfl)
                          clear hd hf hc he
                          clear h3
                          go_simp
                          try first | exact IntWalk.i64_in _ (by omega) | exact IntWalk.u64_in _ (by omega) | exact IntWalk.u32_in _ (by omega)
                        refine Each.obvs_cons (Each.obv_val (fun w => Below.refl _ _) (fun _ _ h => h) _ (fun ev vs dn w1 he hk hg hfn hI hf hc hd => ⟨hd 3 (by decide), ?_, rfl⟩)) ?_
                        · have h3 : vs 3 = _ := hd 3 (by decide)
                          have h4 : vs 4 = _ := hd 4 (by decide)
                          have e177 : ev (.tmp 177) = vs 4 := (he 177).trans (by kernel_rfl)
                          rw [h4] at e177
                          clear hd hf hc he
                          clear h3 h4
                          go_simp
                          try first | exact IntWalk.i64_in _ (by omega) | exact IntWalk.u64_in _ (by omega) | exact IntWalk.u32_in _ (by omega)
                        refine Each.obvs_cons (Each.obv_skip 5 true rfl (fun vs dn w1 hI hf hc hd => ⟨hd 5 (by decide), trivial⟩)) ?_
                        refine Each.obvs_cons (Each.obv_skip 5 true rfl (fun vs dn w1 hI hf hc hd => ⟨hd 5 (by decide), trivial⟩)) ?_
                        refine Each.obvs_cons (Each.obv_skip 5 true rfl (fun vs dn w1 hI hf hc hd => ⟨hd 5 (by decide), trivial⟩)) ?_
                        refine Each.obvs_cons (Each.obv_skip 5 true rfl (fun vs dn w1 hI hf hc hd => ⟨hd 5 (by decide), trivial⟩)) ?_
                        refine Each.obvs_cons (Each.obv_skip 5 true rfl (fun vs dn w1 hI hf hc hd => ⟨hd 5 (by decide), trivial⟩)) ?_
                        refine Each.obvs_cons (Each.obv_skip 5 true rfl (fun vs dn w1 hI hf hc hd => ⟨hd 5 (by decide), trivial⟩)) ?_
                        refine Each.obvs_cons (Each.obv_skip 5 true rfl (fun vs dn w1 hI hf hc hd => ⟨hd 5 (by decide), trivial⟩)) ?_
                        refine Each.obvs_cons (Each.obv_skip 5 true rfl (fun vs dn w1 hI hf hc hd => ⟨hd 5 (by decide), trivial⟩)) ?_
                        refine Each.obvs_cons (Each.obv_skip 5 true rfl (fun vs dn w1 hI hf hc hd => ⟨hd 5 (by decide), trivial⟩)) ?_
                        refine Each.obvs_cons (Each.obv_skip 5 true rfl (fun vs dn w1 hI hf hc hd => ⟨hd 5 (by decide), rfl⟩)) ?_
                        refine Each.obvs_cons (Each.obv_none 15 false rfl (fun vs dn w1 hI hf hc hd => ⟨hd 15 (by decide), trivial⟩)) ?_
                        refine Each.obvs_cons (Each.obv_none 15 false rfl (fun vs dn w1 hI hf hc hd => ⟨hd 15 (by decide), trivial⟩)) ?_
                        refine Each.obvs_cons (Each.obv_none 15 false rfl (fun vs dn w1 hI hf hc hd => ⟨hd 15 (by decide), trivial⟩)) ?_
                        refine Each.obvs_cons (Each.obv_none 15 false rfl (fun vs dn w1 hI hf hc hd => ⟨hd 15 (by decide), trivial⟩)) ?_
                        refine Each.obvs_cons (Each.obv_none 15 false rfl (fun vs dn w1 hI hf hc hd => ⟨hd 15 (by decide), trivial⟩)) ?_
                        refine Each.obvs_cons (Each.obv_none 15 false rfl (fun vs dn w1 hI hf hc hd => ⟨hd 15 (by decide), trivial⟩)) ?_
                        refine Each.obvs_cons (Each.obv_none 15 false rfl (fun vs dn w1 hI hf hc hd => ⟨hd 15 (by decide), trivial⟩)) ?_
                        refine Each.obvs_cons (Each.obv_none 15 false rfl (fun vs dn w1 hI hf hc hd => ⟨hd 15 (by decide), trivial⟩)) ?_
                        refine Each.obvs_cons (Each.obv_none 15 false rfl (fun vs dn w1 hI hf hc hd => ⟨hd 15 (by decide), trivial⟩)) ?_
                        refine Each.obvs_cons (Each.obv_skip 5 true rfl (fun vs dn w1 hI hf hc hd => ⟨hd 5 (by decide), trivial⟩)) ?_
                        refine Each.obvs_cons (Each.obv_skip 5 true rfl (fun vs dn w1 hI hf hc hd => ⟨hd 5 (by decide), rfl⟩)) ?_
                        refine Each.obvs_cons (Each.obv_none 26 false rfl (fun vs dn w1 hI hf hc hd => ⟨hd 26 (by decide), trivial⟩)) ?_
                        refine Each.obvs_cons (Each.obv_none 26 false rfl (fun vs dn w1 hI hf hc hd => ⟨hd 26 (by decide), trivial⟩)) ?_
                        refine Each.obvs_cons (Each.obv_none 26 false rfl (fun vs dn w1 hI hf hc hd => ⟨hd 26 (by decide), trivial⟩)) ?_
                        refine Each.obvs_cons (Each.obv_none 26 false rfl (fun vs dn w1 hI hf hc hd => ⟨hd 26 (by decide), trivial⟩)) ?_
                        refine Each.obvs_cons (Each.obv_none 26 false rfl (fun vs dn w1 hI hf hc hd => ⟨hd 26 (by decide), trivial⟩)) ?_
                        refine Each.obvs_cons (Each.obv_none 26 false rfl (fun vs dn w1 hI hf hc hd => ⟨hd 26 (by decide), trivial⟩)) ?_
                        refine Each.obvs_cons (Each.obv_none 26 false rfl (fun vs dn w1 hI hf hc hd => ⟨hd 26 (by decide), trivial⟩)) ?_
                        refine Each.obvs_cons (Each.obv_skip 5 true rfl (fun vs dn w1 hI hf hc hd => ⟨hd 5 (by decide), trivial⟩)) ?_
                        refine Each.obvs_cons (Each.obv_val (fun w => Below.refl _ _) (fun _ _ h => h) _ (fun ev vs dn w1 he hk hg hfn hI hf hc hd => ⟨hd 3 (by decide), ?_, rfl⟩)) ?_
                        · have h3 : vs 3 = _ := hd 3 (by decide)
                          have h5 : vs 5 = _ := hd 5 (by decide)
                          have e178 : ev (.tmp 178) = vs 5 := (he 178).trans (by kernel_rfl)
                          rw [h5] at e178
                          have e207 : ev (.tmp 207) = vs 34 := (he 207).trans (by kernel_rfl)
                          clear hd hf hc he
                          clear h3 h5
                          go_simp
                          try first | exact IntWalk.i64_in _ (by omega) | exact IntWalk.u64_in _ (by omega) | exact IntWalk.u32_in _ (by omega)
                        refine Each.obvs_cons (Each.obv_val (fun w => Below.refl _ _) (fun _ _ h => h) _ (fun ev vs dn w1 he hk hg hfn hI hf hc hd => ⟨trivial, ?_, rfl⟩)) ?_
                        · have h3 : vs 3 = _ := hd 3 (by decide)
                          have h35 : vs 35 = _ := hd 35 (by decide)
                          have e176 : ev (.tmp 176) = vs 3 := (he 176).trans (by kernel_rfl)
                          rw [h3] at e176
                          have e208 : ev (.tmp 208) = vs 35 := (he 208).trans (by kernel_rfl)
                          rw [h35] at e208
                          clear hd hf hc he
                          clear h3 h35
                          go_simp
                          try first | exact IntWalk.i64_in _ (by omega) | exact IntWalk.u64_in _ (by omega) | exact IntWalk.u32_in _ (by omega)
                        refine Each.obvs_cons (Each.obv_val (fun w => Below.refl _ _) (fun _ _ h => h) _ (fun ev vs dn w1 he hk hg hfn hI hf hc hd => ⟨trivial, ?_, rfl⟩)) ?_
                        · have h36 : vs 36 = _ := hd 36 (by decide)
                          have e209 : ev (.tmp 209) = vs 36 := (he 209).trans (by kernel_rfl)
                          rw [h36] at e209
                          clear hd hf hc he
                          clear h36
                          go_simp
                          try first | exact IntWalk.i64_in _ (by omega) | exact IntWalk.u64_in _ (by omega) | exact IntWalk.u32_in _ (by omega)
                        refine Each.obvs_cons (Each.obv_val (fun w => Below.refl _ _) (fun _ _ h => h) _ (fun ev vs dn w1 he hk hg hfn hI hf hc hd => ⟨hd 37 (by decide), ?_, rfl⟩)) ?_
                        · have h37 : vs 37 = _ := hd 37 (by decide)
                          have e29 : ev (.tmp 29) = .bool false := (he 29).trans (by kernel_rfl)
                          clear hd hf hc he
                          clear h37
                          go_simp
                          try first | exact IntWalk.i64_in _ (by omega) | exact IntWalk.u64_in _ (by omega) | exact IntWalk.u32_in _ (by omega)
                        refine Each.obvs_cons (Each.obv_val (fun w => Below.refl _ _) (fun _ _ h => h) _ (fun ev vs dn w1 he hk hg hfn hI hf hc hd => ⟨hd 37 (by decide), ?_, rfl⟩)) ?_
                        · have h37 : vs 37 = _ := hd 37 (by decide)
                          have h38 : vs 38 = _ := hd 38 (by decide)
                          have e211 : ev (.tmp 211) = vs 38 := (he 211).trans (by kernel_rfl)
                          rw [h38] at e211
                          clear hd hf hc he
                          clear h37 h38
                          go_simp
                          try first | exact IntWalk.i64_in _ (by omega) | exact IntWalk.u64_in _ (by omega) | exact IntWalk.u32_in _ (by omega)
                        refine Each.obvs_cons (Each.obv_val (fun w => Below.refl _ _) (fun _ _ h => h) _ (fun ev vs dn w1 he hk hg hfn hI hf hc hd => ⟨hd 37 (by decide), ?_, rfl⟩)) ?_
                        · have h37 : vs 37 = _ := hd 37 (by decide)
                          have h39 : vs 39 = _ := hd 39 (by decide)
                          have e212 : ev (.tmp 212) = vs 39 := (he 212).trans (by kernel_rfl)
                          rw [h39] at e212
                          clear hd hf hc he
                          clear h37 h39
                          go_simp
                          try first | exact IntWalk.i64_in _ (by omega) | exact IntWalk.u64_in _ (by omega) | exact IntWalk.u32_in _ (by omega)
                        refine Each.obvs_cons (Each.obv_val (fun w => Below.refl _ _) (fun _ _ h => h) _ (fun ev vs dn w1 he hk hg hfn hI hf hc hd => ⟨hd 40 (by decide), ?_, rfl⟩)) ?_
                        · have h40 : vs 40 = _ := hd 40 (by decide)
                          have e10 : ev (.tmp 10) = .pointer (some ⟨tb, 0, none⟩) := (he 10).trans (by kernel_rfl)
                          clear hd hf hc he
                          clear h40
                          go_simp
                          try first | exact IntWalk.i64_in _ (by omega) | exact IntWalk.u64_in _ (by omega) | exact IntWalk.u32_in _ (by omega)
                        refine Each.obvs_cons (Each.obv_val (fun w => Below.refl _ _) (fun _ _ h => h) _ (fun ev vs dn w1 he hk hg hfn hI hf hc hd => ⟨hd 40 (by decide), ?_, rfl⟩)) ?_
                        · have h40 : vs 40 = _ := hd 40 (by decide)
                          have e26 : ev (.tmp 26) = .int .i64 z := (he 26).trans (by kernel_rfl)
                          clear hd hf hc he
                          clear h40
                          go_simp
                          try first | exact IntWalk.i64_in _ (by omega) | exact IntWalk.u64_in _ (by omega) | exact IntWalk.u32_in _ (by omega)
                        refine Each.obvs_cons (Each.obv_call (fun ev vs dn w1 he hk hg hfn hI hf hc hd => ⟨hd 40 (by decide), 12, #[.pointer (some ⟨tb, 0, none⟩), .int .i64 z], ?_, ?_⟩)) ?_
                        · have h40 : vs 40 = _ := hd 40 (by decide)
                          have h41 : vs 41 = _ := hd 41 (by decide)
                          have h42 : vs 42 = _ := hd 42 (by decide)
                          have e214 : ev (.tmp 214) = vs 41 := (he 214).trans (by kernel_rfl)
                          rw [h41] at e214
                          have e215 : ev (.tmp 215) = vs 42 := (he 215).trans (by kernel_rfl)
                          rw [h42] at e215
                          clear hd hf hc he
                          clear h40 h41 h42
                          go_simp
                          try first | exact IntWalk.i64_in _ (by omega) | exact IntWalk.u64_in _ (by omega) | exact IntWalk.u32_in _ (by omega)
                        · have h40 : vs 40 = _ := hd 40 (by decide)
                          have h41 : vs 41 = _ := hd 41 (by decide)
                          have h42 : vs 42 = _ := hd 42 (by decide)
                          clear hd hf hc he hk hg hfn
                          refine (away_any z (HT5.out.later hI) HMM.out.2.1).mono ?_
                          rintro e w2 ⟨rfl, rfl⟩
                          rw [HAWD.out]
                          exact ⟨_, rfl, hI, Below.refl _ _, rfl⟩
                        refine Each.obvs_cons (Each.obv_val (fun w => Below.refl _ _) (fun _ _ h => h) _ (fun ev vs dn w1 he hk hg hfn hI hf hc hd => ⟨hd 37 (by decide), ?_, rfl⟩)) ?_
                        · have h37 : vs 37 = _ := hd 37 (by decide)
                          have h40 : vs 40 = _ := hd 40 (by decide)
                          have h43 : vs 43 = _ := hd 43 (by decide)
                          have e213 : ev (.tmp 213) = vs 40 := (he 213).trans (by kernel_rfl)
                          rw [h40] at e213
                          have e216 : ev (.tmp 216) = vs 43 := (he 216).trans (by kernel_rfl)
                          rw [h43] at e216
                          clear hd hf hc he
                          clear h37 h40 h43
                          go_simp
                          try first | exact IntWalk.i64_in _ (by omega) | exact IntWalk.u64_in _ (by omega) | exact IntWalk.u32_in _ (by omega)
                        refine Each.obvs_cons (Each.obv_val (fun w => Below.refl _ _) (fun _ _ h => h) _ (fun ev vs dn w1 he hk hg hfn hI hf hc hd => ⟨trivial, ?_, rfl⟩)) ?_
                        · have h37 : vs 37 = _ := hd 37 (by decide)
                          have h44 : vs 44 = _ := hd 44 (by decide)
                          have e210 : ev (.tmp 210) = vs 37 := (he 210).trans (by kernel_rfl)
                          rw [h37] at e210
                          have e217 : ev (.tmp 217) = vs 44 := (he 217).trans (by kernel_rfl)
                          rw [h44] at e217
                          clear hd hf hc he
                          clear h37 h44
                          go_simp
                          try first | exact IntWalk.i64_in _ (by omega) | exact IntWalk.u64_in _ (by omega) | exact IntWalk.u32_in _ (by omega)
                        exact Each.obvs_nil
                      case hend3 =>
                        intro vs dn wz hI hR
                        have h45 : vs 45 = _ := hR 45 (by decide)
                        have hBz : Below w25.heap.size w25 wz := hI
                        clear hR hI
                        simp only [Each.puts, Act.put, List.setIfInBounds_toArray, List.set_cons_zero, List.set_cons_succ, Nat.zero_add, Nat.reduceAdd]
                        rw [h45]
                        clear h45
                        have HB6 := Lib.hid (HB5.out.trans (hBz.mono HB5.out.size))
                        clear hBz
                        go_wp2
                        exact ⟨⟨j + 1, z1, HJ.out, HZ1.out, by rw [fw], HB6.out⟩, by have := HJ.out; have := HZJ.out; have := HZ1.out; simp only [intOf]; omega⟩
                · have hzn := decide_eq_false hzm
                  have HBf := Lib.hid (HBx.out.trans (HBj.out.mono HBx.out.size))
                  clear hz hj
                  go_wp2
                  exact ⟨⟨i + 1, G, g8, c8, HI.out.1, HI.out.2, by go_num, HTj.out.mono HN9.out, HFG.out, HRj.out, HG8.out, KPj.out, HBf.out⟩, by have := HI.out; simp [intOf]; omega⟩
          have MID := Lib.hid MID0
          clear MID0 a29
          have hsw : zk = 0 ∨ (zk ≠ 0 ∧ zk = 1) ∨ (zk ≠ 0 ∧ zk ≠ 1 ∧ zk = 2) ∨ (zk ≠ 0 ∧ zk ≠ 1 ∧ zk ≠ 2) := by omega
          rcases hsw with hk0 | ⟨hk0, hk1⟩ | ⟨hk0, hk1, hk2⟩ | ⟨hk0, hk1, hk2⟩
          · subst hk0
            have HC := Lib.hid (HQC.out w6 K6.out)
            obtain ⟨q1, q2, q3⟩ := HC.out
            clear HC
            have HBL := Lib.hid (blame_any zp zn HT6.out HMM.out.2.1 HF.out HMM.out.2.2.2.1 HZN.out (by have := HI.out.2; omega))
            obtain ⟨d, hd⟩ : ∃ d, d = blameD many limit f zp zn := ⟨_, rfl⟩
            obtain ⟨G, hG⟩ : ∃ G, G = blameF many limit hold f zp zn := ⟨_, rfl⟩
            rw [← hd, ← hG] at HBL
            have HFG : Hid (Fine limit hold G) := by rw [hG]; exact fine_blame HF.out many zp zn
            have HRB := Lib.hid (fun (wx : World) (hx : RTab wx g ca many f) => rblame_any (w := wx) (limit := limit) (hold := hold) zp zn hx HMM.out.2.1 HF.out HMM.out.2.2.2.1 HZN.out)
            rw [← hd, ← hG] at HRB
            have HN9 := Lib.hid (show 64 * i + 1 ≤ 64 * (i + 1) by omega)
            clear hd hG
            go_upto_region 21 with (go_at_call 11; refine HBL.out.mono ?_; rintro e w7 ⟨rfl, hT7, hg7⟩)
            clear q0 q1 q2 q3 HBL
            have HT7 := Lib.hid hT7
            have HR7 := Lib.hid (owns_kept HR6.out hg7 HT6.out.isMap)
            have HKP7 := Lib.hid ((hg7.block P (Array.getElem?_eq_some_iff.1 HKP6.out).1 (fun e => by have := Option.some.inj e; have := HTP.out; omega)).trans HKP6.out)
            have HB7 := Lib.hid (below_map HB6.out hg7 HMB.out HB6.out.size)
            have k7 := (hg7.block Q (Array.getElem?_eq_some_iff.1 K6.out).1 (fun e => by have := Option.some.inj e; have := HQM.out; omega)).trans K6.out
            have HQ7 := Lib.hid (HQC.out w7 k7)
            obtain ⟨q1, q2, q3⟩ := HQ7.out
            have r0 : w7.cell? ⟨P, 0, none⟩ = some (.int .i64 (limit : Int)) := by rw [cell_of_row _ _ _ _ _ _ HKP7.out]; rfl
            have r1 : w7.cell? ⟨P, 1, none⟩ = some (.int .i64 (hold : Int)) := by rw [cell_of_row _ _ _ _ _ _ HKP7.out]; rfl
            have r2 : w7.cell? ⟨P, 2, none⟩ = some (.slice (some ⟨g, 0, none⟩) many ca) := by rw [cell_of_row _ _ _ _ _ _ HKP7.out]; rfl
            have HP7 : Hid (P < w7.heap.size) := (Array.getElem?_eq_some_iff.1 HKP7.out).1
            clear hT7 hg7 k7 HT6 HR6 HKP6 HB6 K6 HQ7
            go_upto_region 22 with (first
              | (go_at_call 15; refine (HRB.out _ HR7.out).mono ?_; rintro e w8 ⟨g8, c8, rfl, hR8, hB8, hg8⟩)
              | ((with_reducible refine at_alloc 42 ?_); refine wpList_alloc_zero rfl 42 rfl _ alloc_tab ?_)
              | ((with_reducible refine at_store 42 ?_); refine wpList_store_row rfl 42 _ _ rfl _ (tvalC limit hold g8 c8 many) rfl rfl _ _ (heap_alloc_new _ _) info_tab rfl (one_tab _ _ _ _ _) ?_))
            have hB9 : Below w8.heap.size w8 ((w8.alloc (.cells tzeroC 42)).setRow w8.heap.size (tvalC limit hold g8 c8 many)) := below_setRow ((Below.refl _ w8).alloc (Nat.le_refl _) _) (Nat.le_refl _) _
            have k9 := heap_setRow (heap_alloc_new w8 (.cells tzeroC 42)) (tvalC limit hold g8 c8 many)
            generalize (w8.alloc (.cells tzeroC 42)).setRow w8.heap.size (tvalC limit hold g8 c8 many) = w9 at *
            obtain ⟨P8, hP8⟩ : ∃ P, P = w8.heap.size := ⟨_, rfl⟩
            rw [← hP8] at k9 ⊢
            have hB89 := hB8.trans (hB9.mono hB8.size)
            have hT9 := HT7.out.later hB89
            have hR9 := hR8.later hB9
            have kP9 := (hB89.block P (Array.getElem?_eq_some_iff.1 HKP7.out).1).trans HKP7.out
            have hB9w := HB7.out.trans (hB89.mono HB7.out.size)
            have p0 : w9.cell? ⟨P8, 0, none⟩ = some (.int .i64 (limit : Int)) := by rw [cell_of_row _ _ _ _ _ _ k9]; rfl
            have p1 : w9.cell? ⟨P8, 1, none⟩ = some (.int .i64 (hold : Int)) := by rw [cell_of_row _ _ _ _ _ _ k9]; rfl
            have p2 : w9.cell? ⟨P8, 2, none⟩ = some (.slice (some ⟨g8, 0, none⟩) many c8) := by rw [cell_of_row _ _ _ _ _ _ k9]; rfl
            have HT9 := Lib.hid hT9
            have HR9 := Lib.hid hR9
            have KP9 := Lib.hid kP9
            have HB9w := Lib.hid hB9w
            have HG8 := Lib.hid (rg_ne hg8 HGP.out HP7.out)
            clear hg8
            clear q1 q2 q3
            clear hB8 hB9 k9 hP8 hB89 hT9 hR9 kP9 hB9w hR8 HT7 HKP7 HB7 r0 r1 r2
            go_upto_region 23 with ((with_reducible refine at_store 42 ?_); refine wpList_store_row rfl 42 _ _ rfl _ (tvalC limit hold g8 c8 many) rfl rfl _ _ KP9.out info_tab rfl (one_tab _ _ _ _ _) ?_)
            have k10 := heap_setRow KP9.out (tvalC limit hold g8 c8 many)
            have hg10 : w9.grownBy (w9.setRow P (tvalC limit hold g8 c8 many)) (some P) := ⟨rfl, rfl, rfl, by simp [World.setRow], fun k _ hk => setRow_other w9 P k _ (fun e => hk (by rw [e]))⟩
            have hT10 := HT9.out.kept hg10 (fun e => by have := Option.some.inj e; have := HTP.out; omega) (fun e => by have := Option.some.inj e; have := HTP.out; omega)
            have hR10 := rtab_row HR9.out (b := P) (fun e => HG8.out e.symm) (tvalC limit hold g8 c8 many)
            have hB10 := below_setRow HB9w.out HPW.out (tvalC limit hold g8 c8 many)
            generalize w9.setRow P (tvalC limit hold g8 c8 many) = w10 at *
            have HT10 := Lib.hid hT10
            have HR10 := Lib.hid hR10
            have KP10 := Lib.hid k10
            have HB10 := Lib.hid hB10
            clear k10 hg10 hT10 hR10 hB10 p0 p1 p2 HT9 HR9 KP9 HB9w
            go_wp2
            exact MID.out w10 G _ g8 c8 _ _ _ _ _ _ _ _ _ _ _ _ _ _ _ _ _ _ _ _ _ _ _ _ _ _ _ _ _ _ _ _ _ _ _ _ _ _ _ _ _ _ _ _ _ _ _ _ _ _ _ _ _ _ _ _ _ _ _ _ _ _ _ _ _ _ _ _ _ HT10.out HFG.out HR10.out HG8.out KP10.out HB10.out HN9.out
          · subst hk1
            clear hk0
            have HC := Lib.hid (HQC.out w6 K6.out)
            obtain ⟨q1, q2, q3⟩ := HC.out
            clear HC
            have HBL := Lib.hid (blame_any zp zn HT6.out HMM.out.2.1 HF.out HMM.out.2.2.2.1 HZN.out (by have := HI.out.2; omega))
            obtain ⟨d, hd⟩ : ∃ d, d = blameD many limit f zp zn := ⟨_, rfl⟩
            obtain ⟨G, hG⟩ : ∃ G, G = blameF many limit hold f zp zn := ⟨_, rfl⟩
            rw [← hd, ← hG] at HBL
            have HFG : Hid (Fine limit hold G) := by rw [hG]; exact fine_blame HF.out many zp zn
            have HRB := Lib.hid (fun (wx : World) (hx : RTab wx g ca many f) => rblame_any (w := wx) (limit := limit) (hold := hold) zp zn hx HMM.out.2.1 HF.out HMM.out.2.2.2.1 HZN.out)
            rw [← hd, ← hG] at HRB
            have HN9 := Lib.hid (show 64 * i + 1 ≤ 64 * (i + 1) by omega)
            clear hd hG
            go_upto_region 21 with (go_at_call 11; refine HBL.out.mono ?_; rintro e w7 ⟨rfl, hT7, hg7⟩)
            clear q0 q1 q2 q3 HBL
            have HT7 := Lib.hid hT7
            have HR7 := Lib.hid (owns_kept HR6.out hg7 HT6.out.isMap)
            have HKP7 := Lib.hid ((hg7.block P (Array.getElem?_eq_some_iff.1 HKP6.out).1 (fun e => by have := Option.some.inj e; have := HTP.out; omega)).trans HKP6.out)
            have HB7 := Lib.hid (below_map HB6.out hg7 HMB.out HB6.out.size)
            have k7 := (hg7.block Q (Array.getElem?_eq_some_iff.1 K6.out).1 (fun e => by have := Option.some.inj e; have := HQM.out; omega)).trans K6.out
            have HQ7 := Lib.hid (HQC.out w7 k7)
            obtain ⟨q1, q2, q3⟩ := HQ7.out
            have r0 : w7.cell? ⟨P, 0, none⟩ = some (.int .i64 (limit : Int)) := by rw [cell_of_row _ _ _ _ _ _ HKP7.out]; rfl
            have r1 : w7.cell? ⟨P, 1, none⟩ = some (.int .i64 (hold : Int)) := by rw [cell_of_row _ _ _ _ _ _ HKP7.out]; rfl
            have r2 : w7.cell? ⟨P, 2, none⟩ = some (.slice (some ⟨g, 0, none⟩) many ca) := by rw [cell_of_row _ _ _ _ _ _ HKP7.out]; rfl
            have HP7 : Hid (P < w7.heap.size) := (Array.getElem?_eq_some_iff.1 HKP7.out).1
            clear hT7 hg7 k7 HT6 HR6 HKP6 HB6 K6 HQ7
            go_upto_region 22 with (first
              | (go_at_call 15; refine (HRB.out _ HR7.out).mono ?_; rintro e w8 ⟨g8, c8, rfl, hR8, hB8, hg8⟩)
              | ((with_reducible refine at_alloc 42 ?_); refine wpList_alloc_zero rfl 42 rfl _ alloc_tab ?_)
              | ((with_reducible refine at_store 42 ?_); refine wpList_store_row rfl 42 _ _ rfl _ (tvalC limit hold g8 c8 many) rfl rfl _ _ (heap_alloc_new _ _) info_tab rfl (one_tab _ _ _ _ _) ?_))
            have hB9 : Below w8.heap.size w8 ((w8.alloc (.cells tzeroC 42)).setRow w8.heap.size (tvalC limit hold g8 c8 many)) := below_setRow ((Below.refl _ w8).alloc (Nat.le_refl _) _) (Nat.le_refl _) _
            have k9 := heap_setRow (heap_alloc_new w8 (.cells tzeroC 42)) (tvalC limit hold g8 c8 many)
            generalize (w8.alloc (.cells tzeroC 42)).setRow w8.heap.size (tvalC limit hold g8 c8 many) = w9 at *
            obtain ⟨P8, hP8⟩ : ∃ P, P = w8.heap.size := ⟨_, rfl⟩
            rw [← hP8] at k9 ⊢
            have hB89 := hB8.trans (hB9.mono hB8.size)
            have hT9 := HT7.out.later hB89
            have hR9 := hR8.later hB9
            have kP9 := (hB89.block P (Array.getElem?_eq_some_iff.1 HKP7.out).1).trans HKP7.out
            have hB9w := HB7.out.trans (hB89.mono HB7.out.size)
            have p0 : w9.cell? ⟨P8, 0, none⟩ = some (.int .i64 (limit : Int)) := by rw [cell_of_row _ _ _ _ _ _ k9]; rfl
            have p1 : w9.cell? ⟨P8, 1, none⟩ = some (.int .i64 (hold : Int)) := by rw [cell_of_row _ _ _ _ _ _ k9]; rfl
            have p2 : w9.cell? ⟨P8, 2, none⟩ = some (.slice (some ⟨g8, 0, none⟩) many c8) := by rw [cell_of_row _ _ _ _ _ _ k9]; rfl
            have HT9 := Lib.hid hT9
            have HR9 := Lib.hid hR9
            have KP9 := Lib.hid kP9
            have HB9w := Lib.hid hB9w
            have HG8 := Lib.hid (rg_ne hg8 HGP.out HP7.out)
            clear hg8
            clear q1 q2 q3
            clear hB8 hB9 k9 hP8 hB89 hT9 hR9 kP9 hB9w hR8 HT7 HKP7 HB7 r0 r1 r2
            go_upto_region 23 with ((with_reducible refine at_store 42 ?_); refine wpList_store_row rfl 42 _ _ rfl _ (tvalC limit hold g8 c8 many) rfl rfl _ _ KP9.out info_tab rfl (one_tab _ _ _ _ _) ?_)
            have k10 := heap_setRow KP9.out (tvalC limit hold g8 c8 many)
            have hg10 : w9.grownBy (w9.setRow P (tvalC limit hold g8 c8 many)) (some P) := ⟨rfl, rfl, rfl, by simp [World.setRow], fun k _ hk => setRow_other w9 P k _ (fun e => hk (by rw [e]))⟩
            have hT10 := HT9.out.kept hg10 (fun e => by have := Option.some.inj e; have := HTP.out; omega) (fun e => by have := Option.some.inj e; have := HTP.out; omega)
            have hR10 := rtab_row HR9.out (b := P) (fun e => HG8.out e.symm) (tvalC limit hold g8 c8 many)
            have hB10 := below_setRow HB9w.out HPW.out (tvalC limit hold g8 c8 many)
            generalize w9.setRow P (tvalC limit hold g8 c8 many) = w10 at *
            have HT10 := Lib.hid hT10
            have HR10 := Lib.hid hR10
            have KP10 := Lib.hid k10
            have HB10 := Lib.hid hB10
            clear k10 hg10 hT10 hR10 hB10 p0 p1 p2 HT9 HR9 KP9 HB9w
            go_wp2
            exact MID.out w10 G _ g8 c8 _ _ _ _ _ _ _ _ _ _ _ _ _ _ _ _ _ _ _ _ _ _ _ _ _ _ _ _ _ _ _ _ _ _ _ _ _ _ _ _ _ _ _ _ _ _ _ _ _ _ _ _ _ _ _ _ _ _ _ _ _ _ _ _ _ _ _ _ _ HT10.out HFG.out HR10.out HG8.out KP10.out HB10.out HN9.out
          · have z0 : (zk == 0) = false := by rw [beq_eq_false_iff_ne]; exact hk0
            have z1 : (zk == 1) = false := by rw [beq_eq_false_iff_ne]; exact hk1
            subst hk2
            clear hk0 hk1 z0 z1
            have HC := Lib.hid (HQC.out w6 K6.out)
            obtain ⟨q1, q2, q3⟩ := HC.out
            clear HC
            have HBL := Lib.hid (set_any zp zn zl HT6.out HMM.out.2.1 (by have := HI.out.2; omega))
            obtain ⟨d, hd⟩ : ∃ d : Int, d = if maySet many limit hold zp zn zl then 0 else 1 := ⟨_, rfl⟩
            obtain ⟨G, hG⟩ : ∃ G, G = setF many limit hold f zp zn zl := ⟨_, rfl⟩
            rw [← hd, ← hG] at HBL
            have HFG : Hid (Fine limit hold G) := by rw [hG]; exact fine_set HF.out many zp zn zl
            have HRB := Lib.hid (fun (wx : World) (hx : RTab wx g ca many f) => rset2_any (w := wx) (limit := limit) (hold := hold) zp zn zl hx HMM.out.2.1)
            rw [← hd, ← hG] at HRB
            have HN9 := Lib.hid (show 64 * i + 1 ≤ 64 * (i + 1) by omega)
            have hbI := build_peerJ zn zl
            have hbR := build_rpI zn zl
            clear hd hG
            go_upto_region 26 with (go_at_call 16; refine HBL.out.mono ?_; rintro e w7 ⟨rfl, hT7, hg7⟩)
            clear q0 q1 q2 q3 HBL
            have HT7 := Lib.hid hT7
            have HR7 := Lib.hid (owns_kept HR6.out hg7 HT6.out.isMap)
            have HKP7 := Lib.hid ((hg7.block P (Array.getElem?_eq_some_iff.1 HKP6.out).1 (fun e => by have := Option.some.inj e; have := HTP.out; omega)).trans HKP6.out)
            have HB7 := Lib.hid (below_map HB6.out hg7 HMB.out HB6.out.size)
            have k7 := (hg7.block Q (Array.getElem?_eq_some_iff.1 K6.out).1 (fun e => by have := Option.some.inj e; have := HQM.out; omega)).trans K6.out
            have HQ7 := Lib.hid (HQC.out w7 k7)
            obtain ⟨q1, q2, q3⟩ := HQ7.out
            have r0 : w7.cell? ⟨P, 0, none⟩ = some (.int .i64 (limit : Int)) := by rw [cell_of_row _ _ _ _ _ _ HKP7.out]; rfl
            have r1 : w7.cell? ⟨P, 1, none⟩ = some (.int .i64 (hold : Int)) := by rw [cell_of_row _ _ _ _ _ _ HKP7.out]; rfl
            have r2 : w7.cell? ⟨P, 2, none⟩ = some (.slice (some ⟨g, 0, none⟩) many ca) := by rw [cell_of_row _ _ _ _ _ _ HKP7.out]; rfl
            have HP7 : Hid (P < w7.heap.size) := (Array.getElem?_eq_some_iff.1 HKP7.out).1
            clear hT7 hg7 k7 HT6 HR6 HKP6 HB6 K6 HQ7
            go_upto_region 27 with (first
              | (go_at_call 17; refine (HRB.out _ HR7.out).mono ?_; rintro e w8 ⟨g8, c8, rfl, hR8, hB8, hg8⟩)
              | ((with_reducible refine at_alloc 42 ?_); refine wpList_alloc_zero rfl 42 rfl _ alloc_tab ?_)
              | ((with_reducible refine at_store 42 ?_); refine wpList_store_row rfl 42 _ _ rfl _ (tvalC limit hold g8 c8 many) rfl rfl _ _ (heap_alloc_new _ _) info_tab rfl (one_tab _ _ _ _ _) ?_))
            have hB9 : Below w8.heap.size w8 ((w8.alloc (.cells tzeroC 42)).setRow w8.heap.size (tvalC limit hold g8 c8 many)) := below_setRow ((Below.refl _ w8).alloc (Nat.le_refl _) _) (Nat.le_refl _) _
            have k9 := heap_setRow (heap_alloc_new w8 (.cells tzeroC 42)) (tvalC limit hold g8 c8 many)
            generalize (w8.alloc (.cells tzeroC 42)).setRow w8.heap.size (tvalC limit hold g8 c8 many) = w9 at *
            obtain ⟨P8, hP8⟩ : ∃ P, P = w8.heap.size := ⟨_, rfl⟩
            rw [← hP8] at k9 ⊢
            have hB89 := hB8.trans (hB9.mono hB8.size)
            have hT9 := HT7.out.later hB89
            have hR9 := hR8.later hB9
            have kP9 := (hB89.block P (Array.getElem?_eq_some_iff.1 HKP7.out).1).trans HKP7.out
            have hB9w := HB7.out.trans (hB89.mono HB7.out.size)
            have p0 : w9.cell? ⟨P8, 0, none⟩ = some (.int .i64 (limit : Int)) := by rw [cell_of_row _ _ _ _ _ _ k9]; rfl
            have p1 : w9.cell? ⟨P8, 1, none⟩ = some (.int .i64 (hold : Int)) := by rw [cell_of_row _ _ _ _ _ _ k9]; rfl
            have p2 : w9.cell? ⟨P8, 2, none⟩ = some (.slice (some ⟨g8, 0, none⟩) many c8) := by rw [cell_of_row _ _ _ _ _ _ k9]; rfl
            have HT9 := Lib.hid hT9
            have HR9 := Lib.hid hR9
            have KP9 := Lib.hid kP9
            have HB9w := Lib.hid hB9w
            have HG8 := Lib.hid (rg_ne hg8 HGP.out HP7.out)
            clear hg8
            clear q1 q2 q3
            clear hB8 hB9 k9 hP8 hB89 hT9 hR9 kP9 hB9w hR8 HT7 HKP7 HB7 r0 r1 r2
            go_upto_region 28 with ((with_reducible refine at_store 42 ?_); refine wpList_store_row rfl 42 _ _ rfl _ (tvalC limit hold g8 c8 many) rfl rfl _ _ KP9.out info_tab rfl (one_tab _ _ _ _ _) ?_)
            have k10 := heap_setRow KP9.out (tvalC limit hold g8 c8 many)
            have hg10 : w9.grownBy (w9.setRow P (tvalC limit hold g8 c8 many)) (some P) := ⟨rfl, rfl, rfl, by simp [World.setRow], fun k _ hk => setRow_other w9 P k _ (fun e => hk (by rw [e]))⟩
            have hT10 := HT9.out.kept hg10 (fun e => by have := Option.some.inj e; have := HTP.out; omega) (fun e => by have := Option.some.inj e; have := HTP.out; omega)
            have hR10 := rtab_row HR9.out (b := P) (fun e => HG8.out e.symm) (tvalC limit hold g8 c8 many)
            have hB10 := below_setRow HB9w.out HPW.out (tvalC limit hold g8 c8 many)
            generalize w9.setRow P (tvalC limit hold g8 c8 many) = w10 at *
            have HT10 := Lib.hid hT10
            have HR10 := Lib.hid hR10
            have KP10 := Lib.hid k10
            have HB10 := Lib.hid hB10
            clear k10 hg10 hT10 hR10 hB10 p0 p1 p2 HT9 HR9 KP9 HB9w
            go_wp2
            exact MID.out w10 G _ g8 c8 _ _ _ _ _ _ _ _ _ _ _ _ _ _ _ _ _ _ _ _ _ _ _ _ _ _ _ _ _ _ _ _ _ _ _ _ _ _ _ _ _ _ _ _ _ _ _ _ _ _ _ _ _ _ _ _ _ _ _ _ _ _ _ _ _ _ _ _ _ HT10.out HFG.out HR10.out HG8.out KP10.out HB10.out HN9.out
          · have z0 : (zk == 0) = false := by rw [beq_eq_false_iff_ne]; exact hk0
            have z1 : (zk == 1) = false := by rw [beq_eq_false_iff_ne]; exact hk1
            have z2 : (zk == 2) = false := by rw [beq_eq_false_iff_ne]; exact hk2
            have HBL := Lib.hid (tick_any HT6.out HMM.out.2.1 (by have := HI.out.2; omega) (fine_le HF.out HMM.out.2.2.2.2))
            obtain ⟨G, hG⟩ : ∃ G, G = (fun k => tickP (f k)) := ⟨_, rfl⟩
            rw [← hG] at HBL
            have HFG : Hid (Fine limit hold G) := by rw [hG]; exact fine_tick HF.out
            have HRB := Lib.hid (fun (wx : World) (hx : RTab wx g ca many f) => rtick_any (w := wx) (limit := limit) (hold := hold) G hG hx HMM.out.2.1 (fine_le HF.out HMM.out.2.2.2.2))
            have HN9 := Lib.hid (show 64 * i + 64 ≤ 64 * (i + 1) by omega)
            have HDL := Lib.hid (Nat.le_trans (downs_le many f) HMM.out.2.1)
            have HZ6 : Hid (P < w6.heap.size) := (Array.getElem?_eq_some_iff.1 HKP6.out).1
            clear hG
            go_upto_region 15 with (go_at_call 9; refine HBL.out.mono ?_; rintro e w7 ⟨v7, rfl, hr7, hT7, hg7⟩)
            clear q0 HBL
            have HT7 := Lib.hid hT7
            have HR7 := Lib.hid (owns_kept HR6.out hg7 HT6.out.isMap)
            have HKP7 := Lib.hid ((hg7.block P (Array.getElem?_eq_some_iff.1 HKP6.out).1 (fun e => by have := Option.some.inj e; have := HTP.out; omega)).trans HKP6.out)
            have HB7 := Lib.hid (below_map HB6.out hg7 HMB.out HB6.out.size)
            have k7 := (hg7.block Q (Array.getElem?_eq_some_iff.1 K6.out).1 (fun e => by have := Option.some.inj e; have := HQM.out; omega)).trans K6.out
            have HQ7 := Lib.hid (HQC.out w7 k7)
            obtain ⟨q1, q2, q3⟩ := HQ7.out
            have r0 : w7.cell? ⟨P, 0, none⟩ = some (.int .i64 (limit : Int)) := by rw [cell_of_row _ _ _ _ _ _ HKP7.out]; rfl
            have r1 : w7.cell? ⟨P, 1, none⟩ = some (.int .i64 (hold : Int)) := by rw [cell_of_row _ _ _ _ _ _ HKP7.out]; rfl
            have r2 : w7.cell? ⟨P, 2, none⟩ = some (.slice (some ⟨g, 0, none⟩) many ca) := by rw [cell_of_row _ _ _ _ _ _ HKP7.out]; rfl
            have HP7 : Hid (P < w7.heap.size) := (Array.getElem?_eq_some_iff.1 HKP7.out).1
            have HV7 := Lib.hid hr7
            clear hr7
            clear q1 q2 q3
            clear hT7 hg7 k7 HT6 HR6 HKP6 HB6 K6 HQ7
            go_upto_region 16 with (first
              | (go_at_call 18; refine (HRB.out _ HR7.out).mono ?_; rintro e w8 ⟨g8, c8, v8, rfl, hR8, hV8, hB8, hg8⟩)
              | ((with_reducible refine at_alloc 42 ?_); refine wpList_alloc_zero rfl 42 rfl _ alloc_tab ?_)
              | ((with_reducible refine at_store 42 ?_); refine wpList_store_row rfl 42 _ _ rfl _ (tvalC limit hold g8 c8 many) rfl rfl _ _ (heap_alloc_new _ _) info_tab rfl (one_tab _ _ _ _ _) ?_))
            have hB9 : Below w8.heap.size w8 ((w8.alloc (.cells tzeroC 42)).setRow w8.heap.size (tvalC limit hold g8 c8 many)) := below_setRow ((Below.refl _ w8).alloc (Nat.le_refl _) _) (Nat.le_refl _) _
            have k9 := heap_setRow (heap_alloc_new w8 (.cells tzeroC 42)) (tvalC limit hold g8 c8 many)
            generalize (w8.alloc (.cells tzeroC 42)).setRow w8.heap.size (tvalC limit hold g8 c8 many) = w9 at *
            obtain ⟨P8, hP8⟩ : ∃ P, P = w8.heap.size := ⟨_, rfl⟩
            rw [← hP8] at k9 ⊢
            have hB89 := hB8.trans (hB9.mono hB8.size)
            have hT9 := HT7.out.later hB89
            have hR9 := hR8.later hB9
            have kP9 := (hB89.block P (Array.getElem?_eq_some_iff.1 HKP7.out).1).trans HKP7.out
            have hB9w := HB7.out.trans (hB89.mono HB7.out.size)
            have p0 : w9.cell? ⟨P8, 0, none⟩ = some (.int .i64 (limit : Int)) := by rw [cell_of_row _ _ _ _ _ _ k9]; rfl
            have p1 : w9.cell? ⟨P8, 1, none⟩ = some (.int .i64 (hold : Int)) := by rw [cell_of_row _ _ _ _ _ _ k9]; rfl
            have p2 : w9.cell? ⟨P8, 2, none⟩ = some (.slice (some ⟨g8, 0, none⟩) many c8) := by rw [cell_of_row _ _ _ _ _ _ k9]; rfl
            have HT9 := Lib.hid hT9
            have HR9 := Lib.hid hR9
            have KP9 := Lib.hid kP9
            have HB9w := Lib.hid hB9w
            have HV79 := Lib.hid (owns_later HV7.out hB89)
            have HV89 := Lib.hid (owns_later hV8 hB9)
            clear HV7 hV8
            have HG8 := Lib.hid (rg_ne hg8 HGP.out HP7.out)
            clear hg8
            clear hB8 hB9 k9 hP8 hB89 hT9 hR9 kP9 hB9w hR8 HT7 HKP7 HB7 r0 r1 r2
            go_upto_region 17 with ((with_reducible refine at_store 42 ?_); refine wpList_store_row rfl 42 _ _ rfl _ (tvalC limit hold g8 c8 many) rfl rfl _ _ KP9.out info_tab rfl (one_tab _ _ _ _ _) ?_)
            have k10 := heap_setRow KP9.out (tvalC limit hold g8 c8 many)
            have hg10 : w9.grownBy (w9.setRow P (tvalC limit hold g8 c8 many)) (some P) := ⟨rfl, rfl, rfl, by simp [World.setRow], fun k _ hk => setRow_other w9 P k _ (fun e => hk (by rw [e]))⟩
            have hT10 := HT9.out.kept hg10 (fun e => by have := Option.some.inj e; have := HTP.out; omega) (fun e => by have := Option.some.inj e; have := HTP.out; omega)
            have hR10 := rtab_row HR9.out (b := P) (fun e => HG8.out e.symm) (tvalC limit hold g8 c8 many)
            have hB10 := below_setRow HB9w.out HPW.out (tvalC limit hold g8 c8 many)
            have hV710 := World.ownsRow.kept HV79.out hg10 (Or.inr (fun e => owns_ge HV79.out P HZ6.out e.symm))
            have hV810 := World.ownsRow.kept HV89.out hg10 (Or.inr (fun e => owns_ge HV89.out P HP7.out e.symm))
            generalize w9.setRow P (tvalC limit hold g8 c8 many) = w10 at *
            have HT10 := Lib.hid hT10
            have HR10 := Lib.hid hR10
            have KP10 := Lib.hid k10
            have HB10 := Lib.hid hB10
            have HSM := Lib.hid (rsame_any w10 _ _ _ _ _ hV710 hV810 HDL.out)
            clear hV710 hV810 HV79 HV89
            clear k10 hg10 hT10 hR10 hB10 p0 p1 p2 HT9 HR9 KP9 HB9w
            go_wp2_with (go_at_call 19; refine HSM.out.mono ?_; rintro e w11 ⟨rfl, hB11⟩)
            exact (MID.out w11 G _ g8 c8 _ _ _ _ _ _ _ _ _ _ _ _ _ _ _ _ _ _ _ _ _ _ _ _ _ _ _ _ _ _ _ _ _ _ _ _ _ _ _ _ _ _ _ _ _ _ _ _ _ _ _ _ _ _ _ _ _ _ _ _ _ _ _ _ _ _ _ _ _ (HT10.out.later hB11) HFG.out (HR10.out.later hB11) HG8.out ((hB11.block P (Array.getElem?_eq_some_iff.1 KP10.out).1).trans KP10.out) (HB10.out.trans (hB11.mono HB10.out.size)) HN9.out)
        · have i6 : ¬ (i : Int) < 60 := by omega
          have i7 : decide (i < 60) = false := decide_eq_false hi6
          clear hT hF hRt hgP hK
          have HBR := Lib.hid hB
          clear hB
          go_upto_region 40 with (first
            | (go_at_call 10; refine (peer_nil 0 _).mono ?_; rintro e w20 ⟨rfl, hB20⟩)
            | ((with_reducible refine at_alloc 31 ?_); refine wpList_alloc_zero rfl 31 rfl _ alloc_peer ?_)
            | ((with_reducible refine at_store 31 ?_); refine wpList_store_row rfl 31 _ _ rfl _ (peerC (0, 0)) rfl rfl _ _ (heap_alloc_new _ _) (info_peer _) (size_peer _ _) (one_peer _) ?_))
          have hB21 : Below w20.heap.size w20 ((w20.alloc (.cells (peerC (0, 0)) 31)).setRow w20.heap.size (peerC (0, 0))) := below_setRow ((Below.refl _ w20).alloc (Nat.le_refl _) _) (Nat.le_refl _) _
          have hB22 := hB20.trans (hB21.mono hB20.size)
          have HB22 := Lib.hid (HBR.out.trans (hB22.mono HBR.out.size))
          generalize (w20.alloc (.cells (peerC (0, 0)) 31)).setRow w20.heap.size (peerC (0, 0)) = w21 at *
          have hbp := build_peer0
          clear hB20 hB21 hB22 HBR
          go_wp2_with (first
            | (go_at_call 11; refine (blame_nil 0 1 _).mono ?_; rintro e w22 ⟨rfl, rfl⟩)
            | (go_at_call 12; refine (away_nil 0 _).mono ?_; rintro e w23 ⟨rfl, rfl⟩)
            | (go_at_call 9; refine (tick_nil _).mono ?_; rintro e w24 ⟨rfl, rfl⟩)
            | (go_at_call 13; refine (open_nil _).mono ?_; rintro e w25 ⟨rfl, rfl⟩)
            | (go_at_call 16; refine (set_nil 0 0 0 _).mono ?_; rintro e w26 ⟨rfl, hB26⟩))
          go_ret
          exact ⟨rfl, HB22.out.trans (hB26.mono HB22.out.size)⟩
      · have i1 : ¬ (i : Int) < (m : Int) := by omega
        have i2 : decide (i < m) = false := decide_eq_false hin
        clear hT hF hRt hgP hK
        have HBR := Lib.hid hB
        clear hB
        go_upto_region 40 with (first
          | (go_at_call 10; refine (peer_nil 0 _).mono ?_; rintro e w20 ⟨rfl, hB20⟩)
          | ((with_reducible refine at_alloc 31 ?_); refine wpList_alloc_zero rfl 31 rfl _ alloc_peer ?_)
          | ((with_reducible refine at_store 31 ?_); refine wpList_store_row rfl 31 _ _ rfl _ (peerC (0, 0)) rfl rfl _ _ (heap_alloc_new _ _) (info_peer _) (size_peer _ _) (one_peer _) ?_))
        have hB21 : Below w20.heap.size w20 ((w20.alloc (.cells (peerC (0, 0)) 31)).setRow w20.heap.size (peerC (0, 0))) := below_setRow ((Below.refl _ w20).alloc (Nat.le_refl _) _) (Nat.le_refl _) _
        have hB22 := hB20.trans (hB21.mono hB20.size)
        have HB22 := Lib.hid (HBR.out.trans (hB22.mono HBR.out.size))
        generalize (w20.alloc (.cells (peerC (0, 0)) 31)).setRow w20.heap.size (peerC (0, 0)) = w21 at *
        have hbp := build_peer0
        clear hB20 hB21 hB22 HBR
        go_wp2_with (first
          | (go_at_call 11; refine (blame_nil 0 1 _).mono ?_; rintro e w22 ⟨rfl, rfl⟩)
          | (go_at_call 12; refine (away_nil 0 _).mono ?_; rintro e w23 ⟨rfl, rfl⟩)
          | (go_at_call 9; refine (tick_nil _).mono ?_; rintro e w24 ⟨rfl, rfl⟩)
          | (go_at_call 13; refine (open_nil _).mono ?_; rintro e w25 ⟨rfl, rfl⟩)
          | (go_at_call 16; refine (set_nil 0 0 0 _).mono ?_; rintro e w26 ⟨rfl, hB26⟩))
        go_ret
        exact ⟨rfl, HB22.out.trans (hB26.mono HB22.out.size)⟩
  · have hfit : fits z0 z1 z2 = false := by simpa using hfit
    have HFIT := Lib.hid hfit
    clear hfit
    go_upto_region 6 with (first
      | (go_at_call 8; refine (new_bad z0 z1 z2 _ HFIT.out).mono ?_; rintro e w2 ⟨rfl, rfl⟩)
      | (go_at_call 14; refine (rnew_bad z0 z1 z2 _ HFIT.out).mono ?_; rintro e w3 ⟨rfl, hB3⟩)
      | ((with_reducible refine at_alloc 42 ?_); refine wpList_alloc_zero rfl 42 rfl _ alloc_tab ?_)
      | ((with_reducible refine at_store 42 ?_); refine wpList_store_row rfl 42 _ _ rfl _ tzeroC rfl rfl _ _ (heap_alloc_new _ _) info_tab rfl one_tzero ?_))
    have hB4 : Below w3.heap.size w3 ((w3.alloc (.cells tzeroC 42)).setRow w3.heap.size tzeroC) := below_setRow ((Below.refl _ w3).alloc (Nat.le_refl _) _) (Nat.le_refl _) _
    have hB5 := hB3.trans (hB4.mono hB3.size)
    generalize (w3.alloc (.cells tzeroC 42)).setRow w3.heap.size tzeroC = w4 at *
    obtain ⟨P, hP⟩ : ∃ P, P = w3.heap.size := ⟨_, rfl⟩
    rw [← hP]
    have HB := Lib.hid (HB1.out.trans (hB5.mono HB1.out.size))
    clear hB3 hB4 hB5 hP HB1
    go_wp2
    go_loopw [14, 15, 16, 17, 18, 19, 20, 21, 22, 23, 24, 25, 26, 27, 28, 29] (fun iv _ _ _ _ _ _ _ _ _ _ _ _ _ _ _ wr => iv = .int .i64 0 ∧ Below w.heap.size w wr) (fun _ _ _ _ _ _ _ _ _ _ _ _ _ _ _ _ _ => 0)
    case atStart => exact ⟨rfl, HB.out⟩
    case round =>
      obtain ⟨rfl, hB⟩ := hrel
      by_cases hm0 : (0 : Int) < (m : Int)
      · have hm1 : decide (0 < m) = true := decide_eq_true (by omega)
        have HBR := Lib.hid hB
        clear hB
        go_upto_region 40 with (first
          | (go_at_call 10; refine (peer_nil 0 _).mono ?_; rintro e w20 ⟨rfl, hB20⟩)
          | ((with_reducible refine at_alloc 31 ?_); refine wpList_alloc_zero rfl 31 rfl _ alloc_peer ?_)
          | ((with_reducible refine at_store 31 ?_); refine wpList_store_row rfl 31 _ _ rfl _ (peerC (0, 0)) rfl rfl _ _ (heap_alloc_new _ _) (info_peer _) (size_peer _ _) (one_peer _) ?_))
        have hB21 : Below w20.heap.size w20 ((w20.alloc (.cells (peerC (0, 0)) 31)).setRow w20.heap.size (peerC (0, 0))) := below_setRow ((Below.refl _ w20).alloc (Nat.le_refl _) _) (Nat.le_refl _) _
        have hB22 := hB20.trans (hB21.mono hB20.size)
        have HB22 := Lib.hid (HBR.out.trans (hB22.mono HBR.out.size))
        generalize (w20.alloc (.cells (peerC (0, 0)) 31)).setRow w20.heap.size (peerC (0, 0)) = w21 at *
        have hbp := build_peer0
        clear hB20 hB21 hB22 HBR
        go_wp2_with (first
          | (go_at_call 11; refine (blame_nil 0 1 _).mono ?_; rintro e w22 ⟨rfl, rfl⟩)
          | (go_at_call 12; refine (away_nil 0 _).mono ?_; rintro e w23 ⟨rfl, rfl⟩)
          | (go_at_call 9; refine (tick_nil _).mono ?_; rintro e w24 ⟨rfl, rfl⟩)
          | (go_at_call 13; refine (open_nil _).mono ?_; rintro e w25 ⟨rfl, rfl⟩)
          | (go_at_call 16; refine (set_nil 0 0 0 _).mono ?_; rintro e w26 ⟨rfl, hB26⟩))
        go_ret
        exact ⟨rfl, HB22.out.trans (hB26.mono HB22.out.size)⟩
      · have hm1 : decide (0 < m) = false := decide_eq_false (by omega)
        have hm2 := decide_eq_false hm0
        have HBR := Lib.hid hB
        clear hB
        go_upto_region 40 with (first
          | (go_at_call 10; refine (peer_nil 0 _).mono ?_; rintro e w20 ⟨rfl, hB20⟩)
          | ((with_reducible refine at_alloc 31 ?_); refine wpList_alloc_zero rfl 31 rfl _ alloc_peer ?_)
          | ((with_reducible refine at_store 31 ?_); refine wpList_store_row rfl 31 _ _ rfl _ (peerC (0, 0)) rfl rfl _ _ (heap_alloc_new _ _) (info_peer _) (size_peer _ _) (one_peer _) ?_))
        have hB21 : Below w20.heap.size w20 ((w20.alloc (.cells (peerC (0, 0)) 31)).setRow w20.heap.size (peerC (0, 0))) := below_setRow ((Below.refl _ w20).alloc (Nat.le_refl _) _) (Nat.le_refl _) _
        have hB22 := hB20.trans (hB21.mono hB20.size)
        have HB22 := Lib.hid (HBR.out.trans (hB22.mono HBR.out.size))
        generalize (w20.alloc (.cells (peerC (0, 0)) 31)).setRow w20.heap.size (peerC (0, 0)) = w21 at *
        have hbp := build_peer0
        clear hB20 hB21 hB22 HBR
        go_wp2_with (first
          | (go_at_call 11; refine (blame_nil 0 1 _).mono ?_; rintro e w22 ⟨rfl, rfl⟩)
          | (go_at_call 12; refine (away_nil 0 _).mono ?_; rintro e w23 ⟨rfl, rfl⟩)
          | (go_at_call 9; refine (tick_nil _).mono ?_; rintro e w24 ⟨rfl, rfl⟩)
          | (go_at_call 13; refine (open_nil _).mono ?_; rintro e w25 ⟨rfl, rfl⟩)
          | (go_at_call 16; refine (set_nil 0 0 0 _).mono ?_; rintro e w26 ⟨rfl, hB26⟩))
        go_ret
        exact ⟨rfl, HB22.out.trans (hB26.mono HB22.out.size)⟩
end Go.Proofs.Ytddfiennoekjpaa
