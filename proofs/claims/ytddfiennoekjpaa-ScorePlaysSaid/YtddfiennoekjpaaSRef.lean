/-
  The reference's table in memory, and the walk of its 'set'.
-/
import Derived.Test.YtddfiennoekjpaaSArgs
namespace Go.Proofs.Ytddfiennoekjpaa
open Go.RowKit Go.Maps
attribute [local go_sem] Oper.semAt_some
attribute [local go_sem ↓] Go.wp_at_zero Go.wp_at_succ

/-- The cells of a row of peers. -/
def pcells (f : Nat → Nat × Nat) (n : Nat) : List Value := (List.range (n * 2)).map fun t => if t % 2 = 0 then .int .i64 ((f (t / 2)).1 : Int) else .int .i64 ((f (t / 2)).2 : Int)
theorem pcells_length (f : Nat → Nat × Nat) (n : Nat) : (pcells f n).length = n * 2 := by simp [pcells]
theorem pcells_get (f : Nat → Nat × Nat) (n t : Nat) (h : t < n * 2) : (pcells f n)[t]? = some (if t % 2 = 0 then .int .i64 ((f (t / 2)).1 : Int) else .int .i64 ((f (t / 2)).2 : Int)) := by
  simp [pcells, h]
theorem pcells_one (f : Nat → Nat × Nat) (n : Nat) : ∀ u ∈ pcells f n, u.oneCell' = true := by
  intro u hu
  simp only [pcells, List.mem_map] at hu
  obtain ⟨t, _, rfl⟩ := hu
  split <;> rfl
theorem pcells_set (f : Nat → Nat × Nat) (n k : Nat) (x : Nat × Nat) : ((pcells f n).set (k * 2) (.int .i64 (x.1 : Int))).set (k * 2 + 1) (.int .i64 (x.2 : Int)) = pcells (upd f k x) n := by
  apply List.ext_getElem?
  intro t
  by_cases ht : t < n * 2
  · rw [List.getElem?_set, List.getElem?_set, pcells_get _ _ _ ht, pcells_get _ _ _ ht]
    simp only [List.length_set, pcells_length, upd]
    by_cases h1 : k * 2 + 1 = t
    · subst h1
      simp only [if_true]
      rw [if_pos (by omega), if_neg (by omega), if_pos (by omega)]
    · rw [if_neg h1]
      by_cases h2 : k * 2 = t
      · subst h2
        rw [if_pos rfl, if_pos (by omega), if_pos (by omega), if_pos (by omega)]
      · have h3 : ¬ t / 2 = k := by omega
        rw [if_neg h2]
        simp only [if_neg h3]
  · rw [List.getElem?_eq_none (by simp [pcells_length]; omega), List.getElem?_eq_none (by simp [pcells_length]; omega)]
theorem madeCells_pcells (n : Nat) : (madeCells (peerC (0, 0)) (n * 2)).toList = pcells (fun _ => (0, 0)) n := by
  apply List.ext_getElem?
  intro t
  by_cases ht : t < n * 2
  · rw [pcells_get _ _ _ ht]
    have hm : t % 2 = 0 ∨ t % 2 = 1 := by omega
    rcases hm with h | h <;> simp [madeCells, peerC, ht, h]
  · rw [List.getElem?_eq_none (by simp [madeCells]; omega), List.getElem?_eq_none (by simp [pcells_length]; omega)]

/-- A row of peers at a block. -/
def RTab (w : World) (g c many : Nat) (f : Nat → Nat × Nat) : Prop := w.ownsRow 0 51 2 (.slice (some ⟨g, 0, none⟩) many c) many (pcells f many)
/-- The table's value. -/
def tvalC (limit hold g c many : Nat) : Array Value := #[.int .i64 (limit : Int), .int .i64 (hold : Int), .slice (some ⟨g, 0, none⟩) many c]
def tzeroC : Array Value := #[.int .i64 0, .int .i64 0, .slice none 0 0]
section
variable {w : World} {g c many limit hold : Nat} {f : Nat → Nat × Nat}
theorem RTab.later {w' : World} (h : RTab w g c many f) (hb : Below w.heap.size w w') : RTab w' g c many f := owns_later h hb
theorem RTab.lt (h : RTab w g c many f) : g < w.heap.size := (World.ownsRow.lt h g rfl).2
theorem RTab.cell0 (h : RTab w g c many f) (j : Nat) (hj : j < many) : w.cell? ⟨g, j * 2, none⟩ = some (.int .i64 ((f j).1 : Int)) := by
  rw [World.ownsRow.cellAt h (j * 2) (by omega), pcells_get _ _ _ (by omega), if_pos (by omega), show j * 2 / 2 = j by omega]
theorem RTab.cell1 (h : RTab w g c many f) (j : Nat) (hj : j < many) : w.cell? ⟨g, j * 2 + 1, none⟩ = some (.int .i64 ((f j).2 : Int)) := by
  rw [World.ownsRow.cellAt h (j * 2 + 1) (by omega), pcells_get _ _ _ (by omega), if_neg (by omega), show (j * 2 + 1) / 2 = j by omega]
theorem RTab.cap (h : RTab w g c many f) : many ≤ c ∧ c ≤ 9223372036854775807 := by
  rcases h.2 with ⟨h', _⟩ | ⟨g', cap', cur, h', _, _, h1, h2, _⟩
  · simp at h'
  · simp only [Value.slice.injEq] at h'
    obtain ⟨_, _, rfl⟩ := h'
    exact ⟨h1, h2⟩
theorem rtab_set (h : RTab w g c many f) (k : Nat) (x : Nat × Nat) : RTab (w.setCells g (k * 2) (peerC x).toList) g c many (upd f k x) ∧ w.grownBy (w.setCells g (k * 2) (peerC x).toList) (some g) := by
  obtain ⟨h1, g1⟩ := World.ownsRow.stored h (k * 2) (.int .i64 (x.1 : Int))
  obtain ⟨h2, g2⟩ := World.ownsRow.stored h1 (k * 2 + 1) (.int .i64 (x.2 : Int))
  rw [pcells_set f many k x] at h2
  exact ⟨h2, grown_trans g1 g2⟩
theorem rtab_there (h : RTab w g c many f) (k : Nat) (hk : k < many) : w.there g (k * 2) 2 := by
  intro j hj
  refine ⟨?_, World.ownsRow.frozenAt h _⟩
  rw [World.ownsRow.cellAt h (k * 2 + j) (by omega), pcells_get _ _ _ (by omega)]
  rfl
end
theorem alloc_tab (w : World) : Sem.run Try.prog (Instr.alloc 42 true (.tuple #[])) w = .ok (.pointer (some ⟨w.heap.size, 0, none⟩)) (w.alloc (.cells tzeroC 42)) := by kernel_rfl
theorem alloc_rp (w : World) : Sem.run Try.prog (Instr.alloc 51 true (.tuple #[])) w = .ok (.pointer (some ⟨w.heap.size, 0, none⟩)) (w.alloc (.cells (peerC (0, 0)) 51)) := by kernel_rfl
theorem info_tab : (Try.prog.info? 42).map (·.size) = some 3 := by kernel_rfl
theorem info_rp : (Try.prog.info? 51).map (·.size) = some 2 := by kernel_rfl
theorem info_rp3 : (Try.prog.info? 51).map (fun i => (i.zero, i.size, i.bytes)) = some (some (.agg (peerC (0, 0))), 2, 16) := by kernel_rfl
theorem build_rp (p l : Nat) (w : World) : Sem.run Try.prog (Instr.build 51 #[(0, .int .i64 (p : Int)), (1, .int .i64 (l : Int))]) w = .ok (.agg (peerC (p, l))) w := by kernel_rfl
theorem build_rp1 (p : Nat) (w : World) : Sem.run Try.prog (Instr.build 51 #[(0, .int .i64 (p : Int))]) w = .ok (.agg (peerC (p, 0))) w := by kernel_rfl
theorem build_rpI (p l : Int) (w : World) : Sem.run Try.prog (Instr.build 51 #[(0, .int .i64 p), (1, .int .i64 l)]) w = .ok (.agg #[.int .i64 p, .int .i64 l]) w := by kernel_rfl
theorem peer_cellI0 {w : World} {b t : Nat} {p l : Int} {fr : Nat × Nat} (h : w.heap[b]? = some (.cells #[.int .i64 p, .int .i64 l] t fr)) : w.cell? ⟨b, 0, none⟩ = some (.int .i64 p) := by rw [cell_of_row _ _ _ _ _ _ h]; rfl
theorem peer_cellI1 {w : World} {b t : Nat} {p l : Int} {fr : Nat × Nat} (h : w.heap[b]? = some (.cells #[.int .i64 p, .int .i64 l] t fr)) : w.cell? ⟨b, 1, none⟩ = some (.int .i64 l) := by rw [cell_of_row _ _ _ _ _ _ h]; rfl
theorem one_tab (limit hold g c many : Nat) : (tvalC limit hold g c many).all (·.oneCell') = true := by simp [tvalC]; exact ⟨rfl, rfl, rfl⟩

theorem ownsRow_other {w : World} {g c many b o : Nat} {f : Nat → Nat × Nat} (h : RTab w g c many f) (hg : b ≠ g) (u : Value) (_ : True) : RTab (w.setCell ⟨b, o, none⟩ u) g c many f :=
  World.ownsRow.kept h (w' := w.setCell ⟨b, o, none⟩ u) (row := some b) ⟨rfl, rfl, rfl, by simp, fun k _ hk => heap_setCell_other w ⟨b, o, none⟩ k u (fun e => hk (by simp [e]))⟩ (Or.inr (fun e => hg (Option.some.inj e).symm))
theorem rtab_row {w : World} {g c many b : Nat} {f : Nat → Nat × Nat} (h : RTab w g c many f) (hg : b ≠ g) (cs : Array Value) : RTab (w.setRow b cs) g c many f :=
  World.ownsRow.kept h (w' := w.setRow b cs) (row := some b) ⟨rfl, rfl, rfl, by simp [World.setRow], fun k _ hk => setRow_other w b k cs (fun e => hk (by rw [e]))⟩ (Or.inr (fun e => hg (Option.some.inj e).symm))
theorem rtab_of {w : World} {base many : Nat} {f : Nat → Nat × Nat} {v : Value} (hm : 0 < many) (h : w.ownsRow base 51 2 v (0 + many) ([] ++ pcells f many)) : ∃ g c, v = .slice (some ⟨g, 0, none⟩) many c ∧ base ≤ g ∧ RTab w g c many f := by
  rw [Nat.zero_add, List.nil_append] at h
  have h' := ownsRow_base_a h (Nat.zero_le _)
  rcases h.2 with ⟨_, h0⟩ | ⟨g, cap, cur, rfl, hb, _⟩
  · omega
  · exact ⟨g, cap, rfl, hb, h'⟩
set_option maxRecDepth 100000 in
set_option maxHeartbeats 2000000 in
theorem rset_any (limit hold g c many k : Nat) (x : Nat × Nat) (f : Nat → Nat × Nat) (w : World) (hR : RTab w g c many f) (hm : many ≤ 64) (hk : k < many) :
    Calls Try.prog 25 #[.agg (tvalC limit hold g c many), .int .i64 (k : Int), .agg (peerC x)] w fun e w' => ∃ g' c', e = .returned (.agg (tvalC limit hold g' c' many)) ∧ RTab w' g' c' many (upd f k x) ∧ Below w.heap.size w w' ∧ w.heap.size ≤ g' := by
  refine calls_of_wp Try.func25 rfl ?_
  simp only [Try.ntmps25, List.size_toArray, List.length_cons, List.length_nil, Nat.reduceAdd, Nat.reduceSub, Array.replicate_succ, Array.replicate_zero, List.push_toArray, List.append_toArray, List.nil_append, List.cons_append]
  go_upto_region 1 with (first
    | ((with_reducible refine at_box 42 ?_); refine Go.Great.wpList_boxTo rfl 42 _ rfl _ rfl _ rfl (tvalC limit hold g c many) rfl ?_)
    | ((with_reducible refine at_box 51 ?_); refine Go.Great.wpList_boxTo rfl 51 _ rfl _ rfl _ rfl (peerC x) rfl ?_)
    | ((with_reducible refine at_alloc 42 ?_); refine wpList_alloc_zero rfl 42 rfl _ alloc_tab ?_))
  have hB3 : Below w.heap.size w (w.alloc (.cells (tvalC limit hold g c many) 42)) := (Below.refl _ w).alloc (Nat.le_refl _) _
  have hB4 := hB3.alloc hB3.size (.cells (peerC x) 51)
  have hB5 := hB4.alloc hB4.size (.cells tzeroC 42)
  have k3 := heap_alloc_new w (.cells (tvalC limit hold g c many) 42)
  have k4 := heap_alloc_new (w.alloc (.cells (tvalC limit hold g c many) 42)) (.cells (peerC x) 51)
  have k5 := heap_alloc_new ((w.alloc (.cells (tvalC limit hold g c many) 42)).alloc (.cells (peerC x) 51)) (.cells tzeroC 42)
  have k3' := (((Below.refl _ (w.alloc (.cells (tvalC limit hold g c many) 42))).alloc (Nat.le_refl _) (.cells (peerC x) 51)).alloc (by simp [World.size_alloc]) (.cells tzeroC 42)).block w.heap.size (by simp [World.size_alloc])
  rw [k3] at k3'
  have k4' := ((Below.refl _ ((w.alloc (.cells (tvalC limit hold g c many) 42)).alloc (.cells (peerC x) 51))).alloc (Nat.le_refl _) (.cells tzeroC 42)).block (w.heap.size + 1) (by simp [World.size_alloc])
  simp only [World.size_alloc] at k4 k4' k5 ⊢
  rw [k4] at k4'
  generalize ((w.alloc (.cells (tvalC limit hold g c many) 42)).alloc (.cells (peerC x) 51)).alloc (.cells tzeroC 42) = W at *
  obtain ⟨B, hBB⟩ : ∃ B, B = w.heap.size := ⟨_, rfl⟩
  rw [← hBB] at k3' k4' k5 ⊢
  have hBW : B + 3 ≤ W.heap.size := by have := (Array.getElem?_eq_some_iff.1 k5).1; omega
  have c2 : W.cell? ⟨B, 2, none⟩ = some (.slice (some ⟨g, 0, none⟩) many c) := by rw [cell_of_row _ _ _ _ _ _ k3']; rfl
  have hR1 := hR.later hB5
  have HR1 := Lib.hid hR1
  have HB5 := Lib.hid (by rw [← hBB] at hB5; exact hB5 : Below B w W)
  have K3 := Lib.hid k3'
  have K4 := Lib.hid k4'
  have K5 := Lib.hid k5
  have HM := Lib.hid hm
  have HK := Lib.hid hk
  have HBW := Lib.hid hBW
  have HBB := Lib.hid hBB
  have HCAP := Lib.hid hR.cap
  have hown0 : W.ownsRow W.heap.size 51 2 (.slice none 0 0) 0 [] := ⟨rfl, Or.inl ⟨rfl, rfl⟩⟩
  obtain ⟨inf, hi, hz, hsz, hby⟩ := info_parts info_rp3
  have HINF := Lib.hid (And.intro hi (And.intro hz (And.intro hsz hby)))
  clear hB3 hB4 hB5 k3 k3' k4 k4' k5 hR hR1 hm hk hBW hi hz hsz hby hBB
  go_upto_region 3 with (at_builtin; refine wpList_append_src rfl _ _ 40 rfl W.heap.size 51 inf _ 2 16 Try.underlying40 HINF.out.1 HINF.out.2.1 HINF.out.2.2.1 HINF.out.2.2.2 rfl (by decide) _ 0 [] rfl hown0 (some ⟨g, 0, none⟩) many c (pcells f many) rfl (pcells_length f many) (fun j u hj => ⟨⟨g, 0, none⟩, rfl, by rw [add_addr, Nat.zero_add, World.ownsRow.cellAt HR1.out j (by have := (List.getElem?_eq_some_iff.1 hj).1; rwa [pcells_length] at this)]; exact hj⟩) (fun h => by cases h) (pcells_one f many) (by have := HM.out; unfold maxLen; omega) (by have := HM.out; omega) (Nat.le_refl _) ?_; intro v6 w6 hown6 hg6 _)
  have hB6 := below_grown (Below.refl _ _) hown0 hg6 (Nat.le_refl _)
  obtain ⟨g6, c6, rfl, hg66, hR6⟩ := rtab_of (many := many) (f := f) (by have := HK.out; omega) hown6
  have k36 := (hB6.block B (by have := HBW.out; omega)).trans K3.out
  have k46 := (hB6.block (B + 1) (by have := HBW.out; omega)).trans K4.out
  have k56 := (hB6.block (B + 1 + 1) (by have := HBW.out; omega)).trans K5.out
  have hBx := HB5.out.trans (hB6.mono (by have := HBW.out; omega))
  have d0 : w6.cell? ⟨B + 1, 0, none⟩ = some (.int .i64 (x.1 : Int)) := peer_cell0 k46
  have d1 : w6.cell? ⟨B + 1, 1, none⟩ = some (.int .i64 (x.2 : Int)) := peer_cell1 k46
  have HR6 := Lib.hid hR6
  have HB6 := Lib.hid hBx
  have K36 := Lib.hid k36
  have K56 := Lib.hid k56
  have HG6 := Lib.hid hg66
  have k0 : (0 : Int) ≤ (k : Int) := by omega
  have k1 : (k : Int) < (many : Int) := by have := HK.out; omega
  clear hB6 hg6 hown6 k36 k46 k56 hBx hR6 hg66 hown0 HR1 HB5 K3 K4 K5 c2
  go_upto_region 4 with ((with_reducible refine at_store 51 ?_); refine wpList_store_mid rfl 51 _ _ rfl g6 (k * 2) (peerC x) rfl rfl (rtab_there HR6.out k HK.out) info_rp (one_peer x) ?_)
  obtain ⟨hR7, hg7⟩ := rtab_set HR6.out k x
  have hB7 : Below W.heap.size w6 (w6.setCells g6 (k * 2) (peerC x).toList) := below_map (Below.refl _ _) hg7 HG6.out (by have := HR6.out.lt; have := HG6.out; omega)
  have k37 := (hB7.block B (by have := HBW.out; omega)).trans K36.out
  have k57 := (hB7.block (B + 1 + 1) (by have := HBW.out; omega)).trans K56.out
  have hBy := HB6.out.trans (hB7.mono (by have := HBW.out; omega))
  generalize w6.setCells g6 (k * 2) (peerC x).toList = w7 at *
  have f2 := frozen_of_row w7 B 2 _ _ k37
  have e2 : w7.cell? ⟨B, 2, none⟩ = some (.slice (some ⟨g, 0, none⟩) many c) := by rw [cell_of_row _ _ _ _ _ _ k37]; rfl
  have HR7 := Lib.hid hR7
  have HB7 := Lib.hid hBy
  have K37 := Lib.hid k37
  have K57 := Lib.hid k57
  clear hR7 hg7 hB7 k37 k57 hBy HR6 HB6 K36 K56 d0 d1
  go_upto_region 5 with fail
  have k38 : (w7.setCell ⟨B, 2, none⟩ (.slice (some ⟨g6, 0, none⟩) many c6)).heap[B]? = some (.cells (tvalC limit hold g6 c6 many) 42 (0, 0)) := by
    rw [heap_setCell_same _ _ _ _ _ _ K37.out]
    rfl
  have hB8 : Below B w (w7.setCell ⟨B, 2, none⟩ (.slice (some ⟨g6, 0, none⟩) many c6)) := HB7.out.setCell (p := ⟨B, 2, none⟩) (Nat.le_refl _) _
  have k58 : (w7.setCell ⟨B, 2, none⟩ (.slice (some ⟨g6, 0, none⟩) many c6)).heap[B + 1 + 1]? = some (.cells tzeroC 42 (0, 0)) := by
    rw [heap_setCell_other w7 ⟨B, 2, none⟩ (B + 1 + 1) _ (by show B + 1 + 1 ≠ B; omega)]
    exact K57.out
  have hR8 : RTab (w7.setCell ⟨B, 2, none⟩ (.slice (some ⟨g6, 0, none⟩) many c6)) g6 c6 many (upd f k x) := ownsRow_other HR7.out (by have := HG6.out; have := HBW.out; omega) _ trivial
  generalize w7.setCell ⟨B, 2, none⟩ (.slice (some ⟨g6, 0, none⟩) many c6) = w8 at *
  have b0 : w8.cell? ⟨B, 0, none⟩ = some (.int .i64 (limit : Int)) := by rw [cell_of_row _ _ _ _ _ _ k38]; rfl
  have b1 : w8.cell? ⟨B, 1, none⟩ = some (.int .i64 (hold : Int)) := by rw [cell_of_row _ _ _ _ _ _ k38]; rfl
  have b2 : w8.cell? ⟨B, 2, none⟩ = some (.slice (some ⟨g6, 0, none⟩) many c6) := by rw [cell_of_row _ _ _ _ _ _ k38]; rfl
  have HR8 := Lib.hid hR8
  have HB8 := Lib.hid hB8
  have K58 := Lib.hid k58
  clear k38 hB8 k58 hR8 HR7 HB7 K37 K57 f2 e2
  go_wp2_with ((with_reducible refine at_store 42 ?_); refine wpList_store_row rfl 42 _ _ rfl _ (tvalC limit hold g6 c6 many) rfl rfl _ _ K58.out info_tab rfl (one_tab _ _ _ _ _) ?_)
  refine bodyPost_ret (v := .agg (tvalC limit hold g6 c6 many)) (results_cell_row rfl _ _ (B + 1 + 1) 42 _ (0, 0) _ rfl (heap_setRow K58.out _) Try.underlying42 rfl info_tab) rfl ?_
  refine ⟨g6, c6, rfl, rtab_row HR8.out (by have := HG6.out; have := HBW.out; omega) _, ?_, by rw [← HBB.out]; have := HG6.out; have := HBW.out; omega⟩
  rw [← HBB.out]
  exact below_setRow HB8.out (by omega) _
end Go.Proofs.Ytddfiennoekjpaa
