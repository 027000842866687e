/-
  What all rows of this seat share: the listed variables, the start, and the last step. No statement of the program is proved here.
-/
import Derived.Test.YtifcdmfkojhdnaaDoorLOpen
import Derived.Test.YtifcdmfkojhdnaaDoorTie
import Derived.Test.YtifcdmfkojhdnaaDoorCards
import Derived.ProofKit
import Derived.LaidMore
import Derived.Lib.LaidTab
import Derived.Stop.Joined
namespace Go.Proofs.YtifcdmfkojhdnaaDoor
open Go.ChangeShapes Go.WideShapes Go.ChangeAt Go.WideMaps Go.WideElems Go.RowKit Sha

theorem own : ownKnob Tryd.prog.godebug = none := by kernel_rfl
theorem gBegin : Tryd.prog.globalNamed "assayer/sha.begin" = some 0 := by kernel_rfl
theorem gRoots : Tryd.prog.globalNamed "assayer/sha.roots" = some 1 := by kernel_rfl
theorem tBegin : (Tryd.prog.globals[0]?).map (·.type) = some 57 := by kernel_rfl
theorem tRoots : (Tryd.prog.globals[1]?).map (·.type) = some 74 := by kernel_rfl
def laid2 : List (String × DataW Unit) := [("assayer/sha.begin", Rows.laid_assayer_sha_begin), ("assayer/sha.roots", Rows.laid_assayer_sha_roots)]
/-- The door's own heap meets the condition. -/
theorem door_met (os : Os) (args : Array Value) : laidMetH Tryd.prog laid2 ((World.doorLaid Tryd.prog 400 os).forCall (fun _ _ => 0) ⟨#[], args, []⟩).memory :=
  laidMetH_of_parts3 (fuel := 8) (laidMet_of_run' 8 (by kernel_rfl) (by kernel_rfl)) (by kernel_rfl) (by kernel_rfl)

/-- A block whose cells are some numbers. -/
theorem block_of {W : World} {g : Nat} {cs : Array Value} {zs : List Nat} {name : String} (hg : Tryd.prog.globalNamed name = some g) (hv : W.var? Tryd.prog name = some cs) (hcs : cs.toList = (zs.map fun (x : Nat) => ((x : Int))).map (Value.int .u32))
    (hf : ∃ c t, W.heap[g]? = some (.cells c t (0, 0))) : ∃ t, W.heap[g]? = some (.cells (ints .u32 zs) t (0, 0)) := by
  obtain ⟨c, t, h⟩ := hf
  simp only [World.var?, hg, Option.bind_some, h, Option.some.injEq] at hv
  subst hv
  refine ⟨t, ?_⟩
  rw [h]
  congr 2
  apply Array.ext'
  rw [hcs]
  simp [ints]
theorem tables_of {W : World} (h : laidMetH Tryd.prog laid2 W) : Tables W := by
  rw [MakeChecks.laidMetH_plain _ _ _ (by kernel_rfl)] at h
  obtain ⟨ps, ⟨g0, t0, cs0, f0, p0, q0, hg0, ht0, hv0, hd0, ⟨g1, t1, cs1, f1, p1, q1, hg1, ht1, hv1, hd1, hr1, hq1⟩, hps⟩, _, hall⟩ := h
  obtain rfl := Option.some.inj (gBegin.symm.trans hg0)
  obtain rfl := Option.some.inj (gRoots.symm.trans hg1)
  obtain rfl := Option.some.inj (tBegin.symm.trans ht0)
  obtain rfl := Option.some.inj (tRoots.symm.trans ht1)
  have c0 := Lib.cells_of_tab (zs := begin0.map fun (x : Nat) => ((x : Int))) Tryd.underlying57 Tryd.underlying42 (by kernel_rfl) (by kernel_rfl) hd0
  have c1 := Lib.cells_of_tab (zs := ks.map fun (x : Nat) => ((x : Int))) Tryd.underlying74 Tryd.underlying42 (by kernel_rfl) (by kernel_rfl) hd1
  have s0 : 0 < cs0.size := by rw [← Array.length_toList, c0]; decide
  have s1 : 0 < cs1.size := by rw [← Array.length_toList, c1]; decide
  have m0 : MemPlace.cell 0 0 ∈ ps := by
    rw [hps]
    exact List.mem_append_left _ (List.mem_append_left _ (MemPlace.mem_row.2 ⟨0, s0, by simp⟩))
  have m1 : MemPlace.cell 1 0 ∈ ps := by
    rw [hps, hq1]
    exact List.mem_append_right _ (List.mem_append_left _ (List.mem_append_left _ (MemPlace.mem_row.2 ⟨0, s1, by simp⟩)))
  exact ⟨block_of gBegin hv0 c0 (hall _ _ m0).1, block_of gRoots hv1 c1 (hall _ _ m1).1⟩

section
variable {H : Type} {enc : TypeId × Value → H} {P : Program}
/-- What is below the heap's end reads behind the call as it did. -/
theorem trodAll_below (hl : laidOutB P = true) {W W' : World} (hb : Below W.heap.size W W') {sp : Nat → Bool} : ∀ {ts : List TypeId} {vs : List Value} {ds : List (DataW H)} {ps : List MemPlace}, (ts.all fun t => P.readableRec t && decide (t < P.types.size)) = true →
    DataW.TrodAll enc P W 0 (fun _ => true) true ts vs ds ps → (∀ x ∈ ps, x.block < W.heap.size) → (∀ x ∈ ps, sp x.block = true) → DataW.TrodAll enc P W' 0 sp true ts vs ds ps
  | [], vs, ds, ps, _, h, _, _ => by
    obtain ⟨rfl, rfl, rfl⟩ := trodAll_nil h
    exact trodAll_mk0
  | t :: ts, vs, ds, ps, hts, h, hlt, hsp => by
    obtain ⟨v, vs', d, ds', p, q, rfl, rfl, rfl, hd, hr⟩ := trodAll_cons h
    simp only [List.all_cons, Bool.and_eq_true, decide_eq_true_eq] at hts
    exact ⟨p, q, WideElems.Trod_stays hl hts.1.1 hts.1.2 hd (fun x hx => hb.same (hlt x (List.mem_append_left _ hx))) (fun x hx => hsp x (List.mem_append_left _ hx)),
      trodAll_below hl hb (by simpa using hts.2) hr (fun x hx => hlt x (List.mem_append_right _ hx)) (fun x hx => hsp x (List.mem_append_right _ hx)), rfl⟩
/-- Arguments, one behind the other. -/
theorem args_of {args : Array Value} {vs : List Value} (h : args.toList = vs) : args = vs.toArray := by rw [← h]
/-- The row's last step, where the call has made memory alone. -/
theorem post_of_below {f : Func} {s : ChangeSpec} {apart fresh handsOn again : Bool} {W W' : World} {args : Array Value} {v : Value} {ds gs : List (DataW H)} {before pa pv : List MemPlace}
    (hW : DataW.Whole enc P f.params.toList s.vars apart W args.toList ds gs before)
    (hres : ∀ (b : Nat) (sp : Nat → Bool) (hd : Bool), DataW.TrodAll enc P W' b sp hd f.resultTypes.toList (v.resultList f.resultTypes.size) (s.fn H (ds ++ gs)).results [])
    (hargs : ∀ sp : Nat → Bool, (∀ p ∈ before, sp p.block = true) → DataW.TrodAll enc P W' 0 sp true f.params.toList args.toList (s.fn H (ds ++ gs)).args pa)
    (hvars : ∀ sp : Nat → Bool, (∀ p ∈ before, sp p.block = true) → DataW.TrodVars enc P W' sp s.vars (s.fn H (ds ++ gs)).vars pv)
    (hps : before = pa ++ pv) (hb : Below W.heap.size W W')
    (hok : ∀ (j : Nat) (t : TypeId) (r : Value), f.resultTypes[j]? = some t → (v.resultList f.resultTypes.size)[j]? = some r → Value.okWide P W' .any 0 t r) :
    s.post enc P f apart fresh handsOn again W args v W' := by
  have hlt : ∀ p ∈ before, p.block < W.heap.size := fun p hp => hW.lt p hp
  have hold : ∀ p ∈ before, (fun b => decide (b < W.heap.size)) p.block = true := fun p hp => by simpa using hlt p hp
  refine ⟨ds, gs, before, [], pa, pv, hW, hres _ _ _, hargs _ hold, hvars _ hold, World.keptBut_mono (fun p hp => ⟨hp, ?_⟩) (hb.frame (· ∈ before)), fun _ => ?_⟩
  · rw [hps, List.mem_append] at hp
    exact Or.inr hp
  · obtain ⟨_, _, _, _, _, hz, hn⟩ := hW
    refine ⟨hok, _, _, ([] ++ pa) ++ pv, ⟨[] ++ pa, pv, trodAll_append (hargs _ (fun _ _ => rfl)) (hres _ _ _), hvars _ (fun _ _ => rfl), rfl, ?_, ?_⟩, ?_⟩
    · intro b off hp
      have hin : MemPlace.cell b off ∈ before := by rw [hps]; simpa using hp
      rw [hb.frozen (hlt _ hin)]
      exact hz b off hin
    · intro ha
      have := hn ha
      rw [hps] at this
      simpa using this
    · intro p hp _
      rw [hps]
      simpa using hp
end
end Go.Proofs.YtifcdmfkojhdnaaDoor
