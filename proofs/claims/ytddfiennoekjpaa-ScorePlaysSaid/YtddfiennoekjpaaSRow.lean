/-
  What all rows of this seat share: arguments as they are read, and the last step. No statement of the program is proved here.
-/
import Derived.Test.YtddfiennoekjpaaSArgs
import Derived.Test.YtddfiennoekjpaaRows
import Derived.ProofKit
import Derived.OpenShut
import Derived.ChangeSame
import Derived.Deep.Matrix
namespace Go.Proofs.Ytddfiennoekjpaa
open Go.RowKit Go.ChangeShapes Go.WideShapes Go.ChangeAt Go.WideMaps Go.WideElems

theorem own : ownKnob Try.prog.godebug = none := by kernel_rfl
section
variable {H : Type} {enc : TypeId × Value → H} {w : World} {base : Nat} {held : Bool}
theorem wf_u8 {n : Int} (h : (Lit.int .u8 n).wf = true) : 0 ≤ n ∧ n < 256 := by
  simp [Lit.wf, IntKind.min, IntKind.max, IntKind.signed, IntKind.bits] at h
  omega
theorem wf_u64 {n : Int} (h : (Lit.int .u64 n).wf = true) : 0 ≤ n ∧ n < 18446744073709551616 := by
  simp [Lit.wf, IntKind.min, IntKind.max, IntKind.signed, IntKind.bits] at h
  omega
theorem wf_i64 {n : Int} (h : (Lit.int .i64 n).wf = true) : -9223372036854775808 ≤ n ∧ n ≤ 9223372036854775807 := by
  simp [Lit.wf, IntKind.min, IntKind.max, IntKind.signed, IntKind.bits] at h
  omega
theorem spot_none {w : World} {a : Addr} {v : Value} (h : w.cell? a = some v) : a.spot = none := by
  unfold World.cell? at h
  split at h
  · split at h
    · cases h
    · rename_i hs; simpa using hs
  · cases h
/-- The address of an element, where element 0 is there. -/
theorem add_addr' {w : World} {a : Addr} {v : Value} (h : w.cell? (a.add 0) = some v) (j : Nat) : a.add j = ⟨a.block, a.off + j, none⟩ := by
  have hs := spot_none h
  unfold Addr.add at *
  simp only [if_true] at hs
  obtain ⟨b, o, s⟩ := a
  simp only at hs
  subst hs
  split
  · rename_i hj; subst hj; rfl
  · rfl
theorem open_bytes {v : Value} {d : DataW H} {ps : List MemPlace} (hd : DataW.Trod enc Try.prog w base (fun _ => true) held 22 v d ps) (hv : ∃ a n c, v = .slice a n c) : ∃ l, Bytes w v l := by
  obtain ⟨fuel, hf⟩ := hd
  obtain ⟨a, n, c, rfl⟩ := hv
  rcases open_ints Try.underlying22 Try.underlying5 (by kernel_rfl) hf with ⟨hcs, _⟩ | ⟨a', len, cap, zs, hcs, _, hl, hm, hz, _, hcell, hwz⟩
  · have : Value.slice a n c = .slice none 0 0 := by simpa [Value.cells] using hcs
    rw [this]
    exact ⟨[], none, 0, rfl, Nat.le_refl _, Nat.zero_le _, fun _ => rfl, by simp, fun _ _ h => by simp at h⟩
  · have : Value.slice a n c = .slice (some a') len cap := by simpa [Value.cells] using hcs
    rw [this]
    simp only [if_true] at hz
    have hlen : ((zs.take len).map Int.toNat).length = len := by simp; omega
    refine ⟨(zs.take len).map Int.toNat, some a', cap, by rw [hlen], by rw [hlen]; exact hl, hm, (by simp), ?_, ?_⟩
    · intro x hx
      obtain ⟨z, hz1, rfl⟩ := List.mem_map.1 hx
      have := wf_u8 (hwz z (List.mem_of_mem_take hz1))
      omega
    · intro j x hj
      have hjl : j < len := by have := (List.getElem?_eq_some_iff.1 hj).1; omega
      have h0 := hcell 0 (by omega)
      have hjc := hcell j (by omega)
      rw [add_addr' h0 j] at hjc
      refine ⟨a'.block, a'.off, ?_, ?_⟩
      · have := add_addr' h0 0
        simpa [Addr.add] using this
      · rw [hjc]
        have hzj : zs[j]? = some (zs.getD j 0) := by rw [List.getD_eq_getElem?_getD, List.getElem?_eq_getElem (by omega)]; rfl
        rw [List.getElem?_map, List.getElem?_take_of_lt hjl, hzj] at hj
        simp only [Option.map_some, Option.some.injEq] at hj
        have := wf_u8 (hwz (zs.getD j 0) (List.mem_of_getElem? hzj))
        congr 2
        omega
theorem open_introw {v : Value} {d : DataW H} {ps : List MemPlace} (hd : DataW.Trod enc Try.prog w base (fun _ => true) held 28 v d ps) (hv : ∃ a n c, v = .slice a n c) : ∃ l, IntRow w v l := by
  obtain ⟨fuel, hf⟩ := hd
  obtain ⟨a, n, c, rfl⟩ := hv
  rcases open_ints Try.underlying28 Try.underlying3 (by kernel_rfl) hf with ⟨hcs, _⟩ | ⟨a', len, cap, zs, hcs, _, hl, hm, hz, _, hcell, hwz⟩
  · have : Value.slice a n c = .slice none 0 0 := by simpa [Value.cells] using hcs
    rw [this]
    exact ⟨[], none, 0, rfl, Nat.le_refl _, Nat.zero_le _, by simp, fun _ _ h => by simp at h⟩
  · have : Value.slice a n c = .slice (some a') len cap := by simpa [Value.cells] using hcs
    rw [this]
    simp only [if_true] at hz
    have hlen : (zs.take len).length = len := by simp; omega
    refine ⟨zs.take len, some a', cap, by rw [hlen], by rw [hlen]; exact hl, hm, ?_, ?_⟩
    · intro z hz1
      exact wf_i64 (hwz z (List.mem_of_mem_take hz1))
    · intro j x hj
      have hjl : j < len := by have := (List.getElem?_eq_some_iff.1 hj).1; omega
      have h0 := hcell 0 (by omega)
      have hjc := hcell j (by omega)
      rw [add_addr' h0 j] at hjc
      refine ⟨a'.block, a'.off, ?_, ?_⟩
      · have := add_addr' h0 0
        simpa [Addr.add] using this
      · rw [hjc]
        rw [List.getElem?_take_of_lt hjl] at hj
        rw [List.getD_eq_getElem?_getD, hj]
        rfl
theorem act_of_cells {spare : Nat → Bool} {fuel : Nat} {cs : List Value} {x : DataW H × List MemPlace} (h : DataW.trod enc Try.prog w base spare held fuel 46 cs = some x) : ∃ y, (fits64 y.kind ∧ fits64 y.peer ∧ fits64 y.n ∧ fits64 y.left) ∧ cs = actC y := by
  have c1 : Try.prog.cellsOf 3 = 1 := by kernel_rfl
  have c4 : Try.prog.cellsOf 46 = 4 := by kernel_rfl
  obtain ⟨xs, m, _, _, hlen, hn, hel⟩ := DataW.trod_struct Try.underlying46 h
  rw [c4] at hlen
  have each : ∀ (i : Nat) (f : Field), f.offset = i → f.type = 3 → i < 4 → (∃ y, DataW.trod enc Try.prog w base spare held m f.type ((cs.drop f.offset).take (Try.prog.cellsOf f.type)) = some y) → ∃ n : Int, fits64 n ∧ cs[i]? = some (.int .i64 n) := by
    rintro i f rfl hf hi ⟨y, hy⟩
    rw [hf, c1] at hy
    obtain ⟨n, e1, _, e3⟩ := DataW.trod_int Try.underlying3 hy
    refine ⟨n, wf_i64 e3, ?_⟩
    have e4 : ((cs.drop f.offset).take 1)[0]? = some (.int .i64 n) := by rw [e1]; rfl
    rwa [List.getElem?_take_of_lt (by omega), List.getElem?_drop, Nat.add_zero] at e4
  have some_of : ∀ i, i < 4 → ∃ y, xs[i]? = some y := fun i hi => ⟨_, List.getElem?_eq_getElem (by rw [hn]; exact hi)⟩
  obtain ⟨n0, b0, g0⟩ := each 0 _ rfl rfl (by decide) (by obtain ⟨y, hy⟩ := some_of 0 (by decide); exact ⟨y, (hel 0 _ rfl).trans hy⟩)
  obtain ⟨n1, b1, g1⟩ := each 1 _ rfl rfl (by decide) (by obtain ⟨y, hy⟩ := some_of 1 (by decide); exact ⟨y, (hel 1 _ rfl).trans hy⟩)
  obtain ⟨n2, b2, g2⟩ := each 2 _ rfl rfl (by decide) (by obtain ⟨y, hy⟩ := some_of 2 (by decide); exact ⟨y, (hel 2 _ rfl).trans hy⟩)
  obtain ⟨n3, b3, g3⟩ := each 3 _ rfl rfl (by decide) (by obtain ⟨y, hy⟩ := some_of 3 (by decide); exact ⟨y, (hel 3 _ rfl).trans hy⟩)
  refine ⟨⟨n0, n1, n2, n3⟩, ⟨b0, b1, b2, b3⟩, ?_⟩
  apply List.ext_getElem?
  intro i
  by_cases hi : i < 4
  · have hi : i = 0 ∨ i = 1 ∨ i = 2 ∨ i = 3 := by omega
    rcases hi with rfl | rfl | rfl | rfl
    · exact g0
    · exact g1
    · exact g2
    · exact g3
  · rw [List.getElem?_eq_none (by omega), List.getElem?_eq_none (by simp [actC]; omega)]
theorem open_acts {v : Value} {d : DataW H} {ps : List MemPlace} (hd : DataW.Trod enc Try.prog w base (fun _ => true) held 39 v d ps) (hv : ∃ a n c, v = .slice a n c) : ∃ ls, ActRow w v ls := by
  obtain ⟨fuel, hf⟩ := hd
  obtain ⟨a, n, c, rfl⟩ := hv
  have c4 : Try.prog.cellsOf 46 = 4 := by kernel_rfl
  rcases Go.Deep.open_slice Try.underlying39 hf with ⟨hcs, _⟩ | ⟨a', len, cap, m, n', D, Pl, hcs, _, hl, hm, hmm, _, hel⟩
  · have : Value.slice a n c = .slice none 0 0 := by simpa [Value.cells] using hcs
    rw [this]
    exact ⟨[], none, 0, rfl, Nat.le_refl _, Nat.zero_le _, by simp, fun _ _ h => by simp at h⟩
  · have : Value.slice a n c = .slice (some a') len cap := by simpa [Value.cells] using hcs
    rw [this]
    simp only [if_true] at hmm
    have each : ∀ i, i < len → ∃ y : ActN, (fits64 y.kind ∧ fits64 y.peer ∧ fits64 y.n ∧ fits64 y.left) ∧ ∀ t, t < 4 → w.cell? ((a'.add (i * 4)).add t) = (actC y)[t]? := by
      intro i hi
      obtain ⟨cs', h1, h2⟩ := hel i (by omega)
      rw [c4] at h1
      obtain ⟨_, h3, h4⟩ := World.cells?_some h1
      obtain ⟨y, hy, rfl⟩ := act_of_cells h2
      exact ⟨y, hy, h4⟩
    have hne : ∀ i, i < len → ∃ y : Option ActN, ∃ z, y = some z ∧ (fits64 z.kind ∧ fits64 z.peer ∧ fits64 z.n ∧ fits64 z.left) ∧ ∀ t, t < 4 → w.cell? ((a'.add (i * 4)).add t) = (actC z)[t]? := fun i hi => by
      obtain ⟨y, hy⟩ := each i hi
      exact ⟨some y, y, rfl, hy⟩
    obtain ⟨f, hf⟩ := Go.Deep.choose_lt hne
    have hlen : ((List.range len).map fun i => (f i).getD ⟨0, 0, 0, 0⟩).length = len := by simp
    refine ⟨(List.range len).map fun i => (f i).getD ⟨0, 0, 0, 0⟩, some a', cap, by rw [hlen], by rw [hlen]; exact hl, hm, ?_, ?_⟩
    · intro x hx
      obtain ⟨i, hi, rfl⟩ := List.mem_map.1 hx
      obtain ⟨z, e, hz, _⟩ := hf i (List.mem_range.1 hi)
      rw [e]
      exact hz
    · intro j x hj
      have hjl : j < len := by have := (List.getElem?_eq_some_iff.1 hj).1; omega
      rw [List.getElem?_map, List.getElem?_range hjl] at hj
      simp only [Option.map_some, Option.some.injEq] at hj
      obtain ⟨z, e, hz, hc⟩ := hf j hjl
      rw [e] at hj
      simp only [Option.getD_some] at hj
      subst hj
      obtain ⟨z0, _, _, hc0⟩ := hf 0 (by omega)
      have h0 : w.cell? (a'.add 0) = some (.int .i64 z0.kind) := by
        have := hc0 0 (by decide)
        simp only [Nat.zero_mul] at this
        rw [show (a'.add 0).add 0 = a'.add 0 by simp [Addr.add]] at this
        exact this
      have ha := add_addr' h0 0
      refine ⟨a'.block, a'.off, ?_, ?_⟩
      · simpa [Addr.add] using ha
      · intro t u hu
        have ht : t < 4 := (List.getElem?_eq_some_iff.1 hu).1
        have := hc t ht
        rw [hu, add_addr' h0 (j * 4)] at this
        rw [← this]
        unfold Addr.add
        split
        · rename_i h; subst h; rfl
        · rfl
end

section
variable {H : Type} {enc : TypeId × Value → H} {P : Program}
/-- What is below the heap's end reads behind the call as it did. -/
theorem trodAll_below (hl : laidOutB P = true) {W W' : World} (hb : Below W.heap.size W W') {sp : Nat → Bool} : ∀ {ts : List TypeId} {vs : List Value} {ds : List (DataW H)} {ps : List MemPlace}, (ts.all fun t => P.readableRec t && decide (t < P.types.size)) = true →
    DataW.TrodAll enc P W 0 (fun _ => true) true ts vs ds ps → (∀ x ∈ ps, x.block < W.heap.size) → (∀ x ∈ ps, sp x.block = true) → DataW.TrodAll enc P W' 0 sp true ts vs ds ps
  | [], vs, ds, ps, _, h, _, _ => by
    obtain ⟨rfl, rfl, rfl⟩ := trodAll_nil h
    exact trodAll_mk0
  | t :: ts, vs, ds, ps, hts, h, hlt, hsp => by
    obtain ⟨v, vs', d, ds', p, q, rfl, rfl, rfl, hd, hr⟩ := trodAll_cons h
    simp only [List.all_cons, Bool.and_eq_true, decide_eq_true_eq] at hts
    exact ⟨p, q, WideElems.Trod_stays hl hts.1.1 hts.1.2 hd (fun x hx => hb.same (hlt x (List.mem_append_left _ hx))) (fun x hx => hsp x (List.mem_append_left _ hx)),
      trodAll_below hl hb (by simpa using hts.2) hr (fun x hx => hlt x (List.mem_append_right _ hx)) (fun x hx => hsp x (List.mem_append_right _ hx)), rfl⟩
/-- Arguments, one behind the other. -/
theorem args_of {args : Array Value} {vs : List Value} (h : args.toList = vs) : args = vs.toArray := by rw [← h]
/-- The row's last step, where the call has made memory alone. -/
theorem post_of_below {f : Func} {s : ChangeSpec} {apart fresh handsOn again : Bool} {W W' : World} {args : Array Value} {v : Value} {ds gs : List (DataW H)} {before pa pv : List MemPlace}
    (hW : DataW.Whole enc P f.params.toList s.vars apart W args.toList ds gs before)
    (hres : ∀ (b : Nat) (sp : Nat → Bool) (hd : Bool), DataW.TrodAll enc P W' b sp hd f.resultTypes.toList (v.resultList f.resultTypes.size) (s.fn H (ds ++ gs)).results [])
    (hargs : ∀ sp : Nat → Bool, (∀ p ∈ before, sp p.block = true) → DataW.TrodAll enc P W' 0 sp true f.params.toList args.toList (s.fn H (ds ++ gs)).args pa)
    (hvars : ∀ sp : Nat → Bool, (∀ p ∈ before, sp p.block = true) → DataW.TrodVars enc P W' sp s.vars (s.fn H (ds ++ gs)).vars pv)
    (hps : before = pa ++ pv) (hb : Below W.heap.size W W')
    (hok : ∀ (j : Nat) (t : TypeId) (r : Value), f.resultTypes[j]? = some t → (v.resultList f.resultTypes.size)[j]? = some r → Value.okWide P W' .any 0 t r) :
    s.post enc P f apart fresh handsOn again W args v W' := by
  have hlt : ∀ p ∈ before, p.block < W.heap.size := fun p hp => hW.lt p hp
  have hold : ∀ p ∈ before, (fun b => decide (b < W.heap.size)) p.block = true := fun p hp => by simpa using hlt p hp
  refine ⟨ds, gs, before, [], pa, pv, hW, hres _ _ _, hargs _ hold, hvars _ hold, World.keptBut_mono (fun p hp => ⟨hp, ?_⟩) (hb.frame (· ∈ before)), fun _ => ?_⟩
  · rw [hps, List.mem_append] at hp
    exact Or.inr hp
  · obtain ⟨_, _, _, _, _, hz, hn⟩ := hW
    refine ⟨hok, _, _, ([] ++ pa) ++ pv, ⟨[] ++ pa, pv, trodAll_append (hargs _ (fun _ _ => rfl)) (hres _ _ _), hvars _ (fun _ _ => rfl), rfl, ?_, ?_⟩, ?_⟩
    · intro b off hp
      have hin : MemPlace.cell b off ∈ before := by rw [hps]; simpa using hp
      rw [hb.frozen (hlt _ hin)]
      exact hz b off hin
    · intro ha
      have := hn ha
      rw [hps] at this
      simpa using this
    · intro p hp _
      rw [hps]
      simpa using hp
end
end Go.Proofs.Ytddfiennoekjpaa
