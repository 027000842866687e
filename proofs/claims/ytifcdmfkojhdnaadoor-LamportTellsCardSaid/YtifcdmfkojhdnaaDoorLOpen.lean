/-
  Arguments, as they are read: bytes, entries, a hash, hashes. No statement of the program is proved here.
-/
import Derived.Test.YtifcdmfkojhdnaaDoorLKept
import Derived.Deep.Matrix
import Derived.OpenShut
import Derived.ChangeSame
namespace Go.Proofs.YtifcdmfkojhdnaaDoor
open Go.RowKit Go.Shelf Go.ChangeShapes Go.WideShapes Sha

/-- A slice value that reads as hashes. -/
def Hashes (w : World) (v : Value) (hs : List (List Nat)) : Prop :=
  ∃ (a : Option Addr) (c : Nat), v = .slice a hs.length c ∧ hs.length ≤ c ∧ c ≤ maxLen ∧ (a = none → c = 0) ∧ (∀ h ∈ hs, IsHash h) ∧
    ∀ (j : Nat) (h : List Nat), hs[j]? = some h → ∃ b o, a = some ⟨b, o, none⟩ ∧ b < w.heap.size ∧ w.rangeAt b (o + j * 32) (bcells h)
theorem Hashes.later {w w' : World} {v : Value} {hs : List (List Nat)} (h : Hashes w v hs) (hb : Below w.heap.size w w') : Hashes w' v hs := by
  obtain ⟨a, c, h1, h2, h3, h4, h5, h6⟩ := h
  refine ⟨a, c, h1, h2, h3, h4, h5, fun j x hj => ?_⟩
  obtain ⟨b, o, ha, hl, hc⟩ := h6 j x hj
  exact ⟨b, o, ha, Nat.lt_of_lt_of_le hl hb.size, rangeAt_below hb hl hc⟩
theorem hashes_nil (w : World) : Hashes w (.slice none 0 0) [] := ⟨none, 0, rfl, Nat.le_refl _, Nat.zero_le _, fun _ => rfl, by simp, fun _ _ h => by simp at h⟩
section
variable {H : Type} {enc : TypeId × Value → H} {w : World} {base : Nat} {held : Bool}
theorem wf_u8 {n : Int} (h : (Lit.int .u8 n).wf = true) : 0 ≤ n ∧ n < 256 := by
  simp [Lit.wf, IntKind.min, IntKind.max, IntKind.signed, IntKind.bits] at h
  omega
theorem wf_u64 {n : Int} (h : (Lit.int .u64 n).wf = true) : 0 ≤ n ∧ n < 18446744073709551616 := by
  simp [Lit.wf, IntKind.min, IntKind.max, IntKind.signed, IntKind.bits] at h
  omega
theorem wf_u32 {n : Int} (h : (Lit.int .u32 n).wf = true) : 0 ≤ n ∧ n < 4294967296 := by
  simp [Lit.wf, IntKind.min, IntKind.max, IntKind.signed, IntKind.bits] at h
  omega
theorem wf_i32 {n : Int} (h : (Lit.int .i32 n).wf = true) : -2147483648 ≤ n ∧ n ≤ 2147483647 := by
  simp [Lit.wf, IntKind.min, IntKind.max, IntKind.signed, IntKind.bits] at h
  omega
theorem wf_i64 {n : Int} (h : (Lit.int .i64 n).wf = true) : -9223372036854775808 ≤ n ∧ n ≤ 9223372036854775807 := by
  simp [Lit.wf, IntKind.min, IntKind.max, IntKind.signed, IntKind.bits] at h
  omega
theorem spot_none {w : World} {a : Addr} {v : Value} (h : w.cell? a = some v) : a.spot = none := by
  unfold World.cell? at h
  split at h
  · split at h
    · cases h
    · rename_i hs; simpa using hs
  · cases h
/-- The address of an element, where element 0 is there. -/
theorem add_addr' {w : World} {a : Addr} {v : Value} (h : w.cell? (a.add 0) = some v) (j : Nat) : a.add j = ⟨a.block, a.off + j, none⟩ := by
  have hs := spot_none h
  unfold Addr.add at *
  simp only [if_true] at hs
  obtain ⟨b, o, s⟩ := a
  simp only at hs
  subst hs
  split
  · rename_i hj; subst hj; rfl
  · rfl
theorem open_bytes {v : Value} {d : DataW H} {ps : List MemPlace} (hd : DataW.Trod enc Tryd.prog w base (fun _ => true) held 24 v d ps) (hv : ∃ a n c, v = .slice a n c) : ∃ l, Bytes w v l := by
  obtain ⟨fuel, hf⟩ := hd
  obtain ⟨a, n, c, rfl⟩ := hv
  rcases open_ints Tryd.underlying24 Tryd.underlying5 (by kernel_rfl) hf with ⟨hcs, _⟩ | ⟨a', len, cap, zs, hcs, _, hl, hm, hz, _, hcell, hwz⟩
  · have : Value.slice a n c = .slice none 0 0 := by simpa [Value.cells] using hcs
    rw [this]
    exact ⟨[], none, 0, rfl, Nat.le_refl _, Nat.zero_le _, fun _ => rfl, by simp, fun _ _ h => by simp at h⟩
  · have : Value.slice a n c = .slice (some a') len cap := by simpa [Value.cells] using hcs
    rw [this]
    simp only [if_true] at hz
    have hlen : ((zs.take len).map Int.toNat).length = len := by simp; omega
    refine ⟨(zs.take len).map Int.toNat, some a', cap, by rw [hlen], by rw [hlen]; exact hl, hm, (by simp), ?_, ?_⟩
    · intro x hx
      obtain ⟨z, hz1, rfl⟩ := List.mem_map.1 hx
      have := wf_u8 (hwz z (List.mem_of_mem_take hz1))
      omega
    · intro j x hj
      have hjl : j < len := by have := (List.getElem?_eq_some_iff.1 hj).1; omega
      have h0 := hcell 0 (by omega)
      have hjc := hcell j (by omega)
      rw [add_addr' h0 j] at hjc
      refine ⟨a'.block, a'.off, ?_, ?_⟩
      · have := add_addr' h0 0
        simpa [Addr.add] using this
      · rw [hjc]
        have hzj : zs[j]? = some (zs.getD j 0) := by rw [List.getD_eq_getElem?_getD, List.getElem?_eq_getElem (by omega)]; rfl
        rw [List.getElem?_map, List.getElem?_take_of_lt hjl, hzj] at hj
        simp only [Option.map_some, Option.some.injEq] at hj
        have := wf_u8 (hwz (zs.getD j 0) (List.mem_of_getElem? hzj))
        congr 2
        omega
theorem open_rows {v : Value} {d : DataW H} {ps : List MemPlace} (hd : DataW.Trod enc Tryd.prog w base (fun _ => true) held 54 v d ps) (hv : ∃ a n c, v = .slice a n c) : ∃ ls, ByteRows w v ls := by
  obtain ⟨fuel, hf⟩ := hd
  obtain ⟨a, n, c, rfl⟩ := hv
  rcases Go.Deep.open_int_rows Tryd.underlying54 Tryd.underlying24 Tryd.underlying5 (by kernel_rfl) (by kernel_rfl) hf with ⟨hcs, _⟩ | ⟨a', len, cap, A, L, C, Z, hcs, _, hl, hm, _, hr⟩
  · have : Value.slice a n c = .slice none 0 0 := by simpa [Value.cells] using hcs
    rw [this]
    exact ⟨[], byteRows_nil w⟩
  · have : Value.slice a n c = .slice (some a') len cap := by simpa [Value.cells] using hcs
    rw [this]
    have hlen : ((List.range len).map fun r => ((Z r).take (L r)).map Int.toNat).length = len := by simp
    refine ⟨(List.range len).map fun r => ((Z r).take (L r)).map Int.toNat, some a', cap, by rw [hlen], by rw [hlen]; exact hl, hm, (by simp), ?_⟩
    intro j l hj
    have hjl : j < len := by have := (List.getElem?_eq_some_iff.1 hj).1; omega
    rw [List.getElem?_map, List.getElem?_range hjl] at hj
    simp only [Option.map_some, Option.some.injEq] at hj
    subst hj
    obtain ⟨e1, e2, e3, e4, e5, e6, e7⟩ := hr j (by omega)
    have h0 := (hr 0 (by omega)).1
    rw [add_addr' h0 j] at e1
    refine ⟨a'.block, a'.off, _, ?_, e1, ?_⟩
    · have := add_addr' h0 0
      simpa [Addr.add] using this
    have hln : (((Z j).take (L j)).map Int.toNat).length = L j := by simp; omega
    refine ⟨A j, C j, by rw [hln], by rw [hln]; exact e2, e3, e6, ?_, ?_⟩
    · intro x hx
      obtain ⟨z, hz1, rfl⟩ := List.mem_map.1 hx
      have := wf_u8 (e5 z (List.mem_of_mem_take hz1))
      omega
    · intro i x hi
      have hil : i < L j := by have := (List.getElem?_eq_some_iff.1 hi).1; omega
      cases hA : A j with
      | none => have := e6 hA; omega
      | some ad =>
        obtain ⟨_, h8⟩ := e7 ad hA
        have g0 := h8 0 (by omega)
        have gi := h8 i (by omega)
        rw [add_addr' g0 i] at gi
        refine ⟨ad.block, ad.off, ?_, ?_⟩
        · have := add_addr' g0 0
          simpa [Addr.add] using this
        · rw [gi]
          have hzj : (Z j)[i]? = some ((Z j).getD i 0) := by rw [List.getD_eq_getElem?_getD, List.getElem?_eq_getElem (by omega)]; rfl
          rw [List.getElem?_map, List.getElem?_take_of_lt hil, hzj] at hi
          simp only [Option.map_some, Option.some.injEq] at hi
          have := wf_u8 (e5 ((Z j).getD i 0) (List.mem_of_getElem? hzj))
          congr 2
          omega
theorem hash_of_cells {spare : Nat → Bool} {fuel : Nat} {cs : List Value} {x : DataW H × List MemPlace} (h : DataW.trod enc Tryd.prog w base spare held fuel 23 cs = some x) : ∃ hs, IsHash hs ∧ cs = bcells hs := by
  obtain ⟨xs, m, _, _, hlen, hn, hel⟩ := DataW.trod_array Tryd.underlying23 h
  have c5 : Tryd.prog.cellsOf 5 = 1 := by kernel_rfl
  have c34 : Tryd.prog.cellsOf 23 = 32 := by kernel_rfl
  rw [c34] at hlen
  have each : ∀ i, i < 32 → ∃ n : Nat, cs[i]? = some (.int .u8 (n : Int)) ∧ n < 256 := by
    intro i hi
    have h1 := hel i hi
    rw [c5, List.getElem?_eq_getElem (by omega)] at h1
    obtain ⟨n, e1, _, e3⟩ := DataW.trod_int Tryd.underlying5 h1
    have hb := wf_u8 e3
    refine ⟨n.toNat, ?_, by omega⟩
    have e4 : ((cs.drop (i * 1)).take 1)[0]? = some (.int .u8 n) := by rw [e1]; rfl
    rw [List.getElem?_take_of_lt (by omega), List.getElem?_drop, Nat.mul_one, Nat.add_zero] at e4
    rw [e4, show ((n.toNat : Nat) : Int) = n by omega]
  obtain ⟨f, hf⟩ := Go.Deep.choose_lt each
  refine ⟨(List.range 32).map f, ⟨by simp, ?_⟩, ?_⟩
  · intro x hx
    obtain ⟨i, hi, rfl⟩ := List.mem_map.1 hx
    exact (hf i (List.mem_range.1 hi)).2
  · apply List.ext_getElem?
    intro i
    by_cases hi : i < 32
    · rw [(hf i hi).1, bcells_get, List.getElem?_map, List.getElem?_range hi]; rfl
    · rw [List.getElem?_eq_none (by omega), List.getElem?_eq_none (by rw [bcells_length]; simp; omega)]
theorem open_hash {r : Reach} {b0 : Nat} {v : Value} {d : DataW H} {ps : List MemPlace} (hval : Value.okWide Tryd.prog w r b0 23 v) (hd : DataW.Trod enc Tryd.prog w base (fun _ => true) held 23 v d ps) : ∃ h, IsHash h ∧ v = .agg (ints .u8 h) := by
  obtain ⟨fuel, hf⟩ := hd
  obtain ⟨h, hh, e⟩ := hash_of_cells hf
  simp only [Value.okWide, Tryd.underlying23] at hval
  obtain ⟨cs, rfl, _⟩ := hval
  refine ⟨h, hh, ?_⟩
  rw [ints_eq, ← e]
  simp [Value.cells]
theorem open_hashes {v : Value} {d : DataW H} {ps : List MemPlace} (hd : DataW.Trod enc Tryd.prog w base (fun _ => true) held 31 v d ps) (hv : ∃ a n c, v = .slice a n c) : ∃ ls, Hashes w v ls := by
  obtain ⟨fuel, hf⟩ := hd
  obtain ⟨a, n, c, rfl⟩ := hv
  have c34 : Tryd.prog.cellsOf 23 = 32 := by kernel_rfl
  rcases Go.Deep.open_slice Tryd.underlying31 hf with ⟨hcs, _⟩ | ⟨a', len, cap, m, n', D, Pl, hcs, _, hl, hm, hmm, _, hel⟩
  · have : Value.slice a n c = .slice none 0 0 := by simpa [Value.cells] using hcs
    rw [this]
    exact ⟨[], hashes_nil w⟩
  · have : Value.slice a n c = .slice (some a') len cap := by simpa [Value.cells] using hcs
    rw [this]
    simp only [if_true] at hmm
    have each : ∀ i, i < len → ∃ h : List Nat, IsHash h ∧ ∀ t, t < 32 → w.cell? ((a'.add (i * 32)).add t) = (bcells h)[t]? := by
      intro i hi
      obtain ⟨cs', h1, h2⟩ := hel i (by omega)
      rw [c34] at h1
      obtain ⟨_, h3, h4⟩ := World.cells?_some h1
      obtain ⟨h, hh, rfl⟩ := hash_of_cells h2
      exact ⟨h, hh, h4⟩
    obtain ⟨f, hf⟩ := Go.Deep.choose_lt each
    have hlen : ((List.range len).map f).length = len := by simp
    refine ⟨(List.range len).map f, some a', cap, by rw [hlen], by rw [hlen]; exact hl, hm, (by simp), ?_, ?_⟩
    · intro x hx
      obtain ⟨i, hi, rfl⟩ := List.mem_map.1 hx
      exact (hf i (List.mem_range.1 hi)).1
    · intro j x hj
      have hjl : j < len := by have := (List.getElem?_eq_some_iff.1 hj).1; omega
      rw [List.getElem?_map, List.getElem?_range hjl] at hj
      simp only [Option.map_some, Option.some.injEq] at hj
      subst hj
      have hb0 : (bcells (f 0))[0]? = some ((bcells (f 0)).getD 0 undef) := by
        rw [List.getD_eq_getElem?_getD, List.getElem?_eq_getElem (by rw [bcells_length, (hf 0 (by omega)).1.1]; omega)]; rfl
      have h0 : w.cell? (a'.add 0) = some ((bcells (f 0)).getD 0 undef) := by
        rw [← hb0, ← (hf 0 (by omega)).2 0 (by omega)]
        simp [Addr.add]
      have ha := add_addr' h0 0
      have haddr : ∀ t, (a'.add (j * 32)).add t = ⟨a'.block, a'.off + j * 32 + t, none⟩ := by
        intro t
        rw [add_addr' h0 (j * 32)]
        unfold Addr.add
        split
        · rename_i ht; subst ht; rfl
        · rfl
      have hc0 : w.cell? ⟨a'.block, a'.off, none⟩ = some ((bcells (f 0)).getD 0 undef) := by
        rw [ha] at h0
        simpa using h0
      refine ⟨a'.block, a'.off, ?_, block_lt_of_cell (by simpa [Addr.add] using h0), ?_⟩
      · simpa [Addr.add] using ha
      · intro t u hu
        have ht : t < 32 := by
          have := (List.getElem?_eq_some_iff.1 hu).1
          rw [bcells_length, (hf j hjl).1.1] at this
          exact this
        have := (hf j hjl).2 t ht
        rw [haddr t] at this
        rw [this, hu]
end
end Go.Proofs.YtifcdmfkojhdnaaDoor
