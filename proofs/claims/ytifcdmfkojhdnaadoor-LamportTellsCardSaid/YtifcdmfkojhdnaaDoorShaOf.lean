/-
  The walk of sha.Of: the hash of rows of bytes.
-/
import Derived.Test.YtifcdmfkojhdnaaDoorShaMore
import Derived.Test.YtifcdmfkojhdnaaDoorChunk
namespace Go.Proofs.YtifcdmfkojhdnaaDoor
open Go.RowKit Go.Shelf Sha
attribute [local go_sem] Oper.semAt_some

/-- The two tables of package sha lie as its text lays them. -/
def Tables (w : World) : Prop :=
  (∃ t, w.heap[0]? = some (.cells (ints .u32 begin0) t (0, 0))) ∧ ∃ t, w.heap[1]? = some (.cells (ints .u32 ks) t (0, 0))
theorem Tables.later {w w' : World} (h : Tables w) (hb : Below w.heap.size w w') : Tables w' :=
  ⟨h.1.imp fun _ h1 => (hb.block _ (Array.getElem?_eq_some_iff.1 h1).1).trans h1, h.2.imp fun _ h2 => (hb.block _ (Array.getElem?_eq_some_iff.1 h2).1).trans h2⟩

theorem alloc_hash (w : World) : Sem.run Tryd.prog (Instr.alloc 23 true (.tuple #[])) w = .ok (.pointer (some ⟨w.heap.size, 0, none⟩)) (w.alloc (.cells (ints .u8 zeros32) 23)) := by kernel_rfl

def sliceLen : Value → Nat | .slice _ n _ => n | _ => 0
theorem ownsRow_slice {w : World} {base e size n : Nat} {v : Value} {xs : List Value} (h : w.ownsRow base e size v n xs) : ∃ a c, v = .slice a n c := by
  obtain ⟨_, h2⟩ := h
  rcases h2 with ⟨rfl, rfl⟩ | ⟨g, cap, cur, rfl, _⟩
  · exact ⟨_, _, rfl⟩
  · exact ⟨_, _, rfl⟩
theorem bytes_new (w : World) (x : Nat) (hx : x < 256) : Bytes (w.alloc (.cells #[.int .u8 (x : Int)] 5)) (.slice (some ⟨w.heap.size, 0, none⟩) 1 1) [x] := by
  refine ⟨_, 1, rfl, by simp, by unfold maxLen; omega, by simp, by simpa using hx, fun j y hj => ⟨w.heap.size, 0, rfl, ?_⟩⟩
  match j, hj with
  | 0, hj =>
    simp only [List.getElem?_cons_zero, Option.some.injEq] at hj
    subst hj
    rw [cell_of_row _ _ _ _ _ _ (heap_alloc_new _ _)]; rfl
  | j + 1, hj => simp at hj

theorem gap_lt (n : Nat) : gap n < 64 := by unfold gap; omega
theorem gap_at (n z : Nat) (hz : z ≤ gap n) : (n + 1 + z) % 64 = 56 ↔ z = gap n := by unfold gap at *; omega
theorem tail8_length (n : Nat) : ∀ k, (tail8 n k).length = k
  | 0 => rfl
  | k + 1 => by simp [tail8, tail8_length n k]

theorem ByteRows.lt {w : World} {v : Value} {ls : List (List Nat)} (h : ByteRows w v ls) : ∀ x ∈ flat ls, x < 256 := by
  obtain ⟨a, c, h1, h2, h3, h4, h5⟩ := h
  intro x hx
  simp only [flat, List.mem_flatten] at hx
  obtain ⟨l, hl, hxl⟩ := hx
  obtain ⟨j, hj⟩ := List.getElem?_of_mem hl
  obtain ⟨b, o, u, _, _, hu⟩ := h5 j l hj
  obtain ⟨_, _, _, _, _, _, h8, _⟩ := hu
  exact h8 x hxl
theorem tail8_lt (n : Nat) : ∀ k, ∀ x ∈ tail8 n k, x < 256
  | 0 => by simp [tail8]
  | k + 1 => by
    intro x hx
    simp only [tail8, List.mem_append, List.mem_cons, List.not_mem_nil, or_false] at hx
    rcases hx with h | rfl
    · exact tail8_lt n k x h
    · exact Nat.mod_lt _ (by decide)
theorem pad_lt (l : List Nat) (h : ∀ x ∈ l, x < 256) : ∀ x ∈ pad l, x < 256 := by
  intro x hx
  simp only [pad, List.mem_append, List.mem_cons, List.not_mem_nil, or_false, List.mem_replicate] at hx
  rcases hx with ((h1 | rfl) | ⟨_, rfl⟩) | h1
  · exact h x h1
  · decide
  · decide
  · exact tail8_lt _ _ x h1
theorem pad_length (l : List Nat) : (pad l).length = l.length + 1 + gap l.length + 8 := by simp [pad, tail8_length]; omega
theorem pad_mod (l : List Nat) : (pad l).length = 64 * ((pad l).length / 64) := by rw [pad_length]; unfold gap; omega
theorem block_getD (p : List Nat) (i j : Nat) (hj : j < 64) : (block p i).getD j 0 = p.getD (64 * i + j) 0 := by
  simp only [block, List.getD_eq_getElem?_getD, List.getElem?_take, List.getElem?_drop]
  rw [if_pos hj]
theorem state_foldl (p : List Nat) (m : Nat) : ∀ (xs : List (Fin m)) (k : Nat), xs.map (·.val) = List.range k → xs.foldl (fun s x => more s (block p x.val)) begin0 = state p k := by
  intro xs k
  induction k generalizing xs with
  | zero => intro h; have : xs = [] := by simpa using h
            subst this; rfl
  | succ k ih =>
    intro h
    rw [List.range_succ] at h
    obtain ⟨ys, zs, rfl, h1, h2⟩ := List.map_eq_append_iff.1 h
    obtain ⟨z, rfl, h3⟩ : ∃ z, zs = [z] ∧ z.val = k := by
      match zs, h2 with
      | [z], h2 => exact ⟨z, rfl, by simpa using h2⟩
    rw [List.foldl_append, ih ys h1]
    simp only [List.foldl_cons, List.foldl_nil, state, h3]
theorem hashOf_eq (l : List Nat) (m : Nat) (h : m = (pad l).length / 64) : hashOf l = out (state (pad l) m) 32 := by subst h; rfl
theorem more_length (s bs : List Nat) (h : s.length = 8) : (more s bs).length = 8 := sums_length _ _ h 8
theorem sums_lt (s v : List Nat) (hs : ∀ j, s.getD j 0 < 4294967296) : ∀ i j, (sums s v i).getD j 0 < 4294967296
  | 0, j => hs j
  | i + 1, j => by
    rw [sums, getD_set]
    split
    · exact mod32 _
    · exact sums_lt s v hs i j
theorem more_lt (s bs : List Nat) (hs : ∀ j, s.getD j 0 < 4294967296) (j : Nat) : (more s bs).getD j 0 < 4294967296 := sums_lt _ _ hs _ _
theorem fold_length (p : List Nat) (m : Nat) (xs : List (Fin m)) : (xs.foldl (fun s x => more s (block p x.val)) begin0).length = 8 := by
  suffices h : ∀ s : List Nat, s.length = 8 → (xs.foldl (fun s x => more s (block p x.val)) s).length = 8 from h begin0 rfl
  induction xs with
  | nil => exact fun s h => h
  | cons x xs ih => exact fun s h => ih _ (more_length _ _ h)
theorem fold_lt (p : List Nat) (m : Nat) (xs : List (Fin m)) : ∀ j, (xs.foldl (fun s x => more s (block p x.val)) begin0).getD j 0 < 4294967296 := by
  suffices h : ∀ s : List Nat, (∀ j, s.getD j 0 < 4294967296) → ∀ j, (xs.foldl (fun s x => more s (block p x.val)) s).getD j 0 < 4294967296 from h begin0 (fun j => getD_lt _ _ (by omega) (by decide) j)
  induction xs with
  | nil => exact fun s h => h
  | cons x xs ih => exact fun s h => ih _ (more_lt _ _ h)
/-- Between two rounds over the blocks: the eight numbers, and all that lay below them. -/
def RoundInv (l : List Nat) (m B : Nat) (w2 : World) (pre : List (Fin m)) (W : World) : Prop :=
  W.heap[B]? = some (.cells (ints .u32 (pre.foldl (fun s x => more s (block (pad l) x.val)) begin0)) 57 (0, 0)) ∧ Below B w2 W
theorem roundInv_own (l : List Nat) (m B : Nat) (w2 : World) (hB : B < w2.heap.size) : OwnFrom w2.heap.size (RoundInv l m B w2) := by
  intro s W W' row hs hg hr
  obtain ⟨h1, h2⟩ := hs
  refine ⟨?_, ?_⟩
  · rw [hg.block B (Array.getElem?_eq_some_iff.1 h1).1 ?_]
    · exact h1
    · intro e
      have := (hr B e.symm).1
      omega
  · exact h2.grown hg (by have := h2.size; omega) (fun k e => by have := (hr k e).1; omega)
theorem keepsTwo_t {b1 b2 : Nat} {A B C : World} (h : KeepsTwo b1 b2 A B) (k : KeepsTwo b1 b2 B C) : KeepsTwo b1 b2 A C := ⟨k.1.trans h.1, k.2.trans h.2⟩
theorem keepsTwo_b {b1 b2 : Nat} {w : World} (hb1 : b1 < w.heap.size) (hb2 : b2 < w.heap.size) (W : World) (l : Nat) (_o o' : Obj) (_hl : w.heap.size ≤ l) (_ : W.heap[l]? = some _o) (_ : _o.isCells = false) (_ : _o.isWalk = false) : KeepsTwo b1 b2 W (W.putObj l o') :=
  ⟨World.putObj_heap_other (by omega), World.putObj_heap_other (by omega)⟩
theorem keepsOthers_below {W W' : World} (h : Below W.heap.size W W') : KeepsOthers W W' :=
  ⟨h.size, fun k _ hk _ => (h.block k (Array.getElem?_eq_some_iff.1 hk).1).trans hk⟩
theorem concat_l (v : Value) (ls : List (List Nat)) (l : List Nat) (hfl : Hid (flat ls = l)) (w : World) (hv : ByteRows w v ls) (hn : l.length ≤ 1099511627776) (hl : ls.length ≤ 1099511627776) :
    Calls Tryd.prog 27 #[v] w (OwnBytes w.heap.size w l) := by
  have h := hfl.out
  subst h
  exact concat_any v ls w hv hn hl
theorem out_length (S : List Nat) : ∀ k, (out S k).length = 32
  | 0 => rfl
  | k + 1 => by rw [out, List.length_set, out_length S k]
set_option maxHeartbeats 4000000 in
set_option maxRecDepth 100000 in
theorem of_any (v : Value) (ls : List (List Nat)) (l : List Nat) (hfl : Hid (flat ls = l)) (w : World) (hv : ByteRows w v ls) (hn : l.length ≤ 1099511627776) (hl : ls.length ≤ 1099511627776) (ht : Tables w) :
    Calls Tryd.prog 16 #[v] w fun e w' => e = .returned (.agg (ints .u8 (hashOf l))) ∧ Below w.heap.size w w' := by
  refine (callsIn_wide (n := 9)).1 (callsIn_of_wp_marks Tryd.func16 rfl trivial ?_)
  refine wpIn_wide.2 ?_
  simp only [Tryd.ntmps16, List.size_toArray, List.length_cons, List.length_nil, Nat.reduceAdd, Nat.reduceSub, Array.replicate_succ, Array.replicate_zero, List.push_toArray, List.append_toArray, List.nil_append, List.cons_append]
  have hv1 := hv.later (((Below.refl _ w).alloc (Nat.le_refl _) (.cells (ints .u8 zeros32) 23)))
  have HT := Lib.hid ht
  clear ht
  go_upto_region 3 with (first | ((with_reducible refine at_alloc 23 ?_); refine wpList_alloc_zero rfl 23 rfl _ alloc_hash ?_) | (go_at_call 27; refine (concat_l _ ls l hfl _ hv1 hn hl).mono ?_; rintro e w1 ⟨v0, rfl, hown, hB⟩; obtain ⟨a0, c0, rfl⟩ := ownsRow_slice hown))
  have h8l : ∀ x ∈ l, x < 256 := by have h := hv.lt; rw [hfl.out] at h; exact h
  have H8 := Lib.hid (pad_lt l h8l)
  clear hv hv1 hl hfl h8l
  rw [World.size_alloc] at hown hB
  obtain ⟨W0, hW0⟩ : ∃ W0, W0 = w.alloc (.cells (ints .u8 zeros32) 23) := ⟨_, rfl⟩
  rw [← hW0] at hB
  have HW0 := Lib.hid hW0
  clear hW0
  have HO := Lib.hid (hown.alloc (.cells #[.int .u8 ((128 : Nat) : Int)] 5))
  have HN := Lib.hid (bytes_new w1 128 (by omega))
  have hb1 : w.heap.size + 1 ≤ w1.heap.size := by have := hB.size; rw [HW0.out, World.size_alloc] at this; exact this
  clear hown
  have hbl : l.length + 1 ≤ 70368744177664 := by omega
  go_wp2_with (at_builtin; refine append_bytes rfl _ _ rfl (w.heap.size + 1) _ _ rfl HO.out _ [128] rfl HN.out hbl (by simp; omega) ?_; intro v' w' hv' hg)
  have hB' : Below (w.heap.size + 1) W0 w' := (hB.alloc hb1 _).grown hg (by simp; omega) (fun j hj => (World.ownsRow.lt HO.out j hj).1)
  have hv0 : w'.ownsRow (w.heap.size + 1) 5 1 v' ((l ++ [128]) ++ List.replicate 0 0).length (bcells ((l ++ [128]) ++ List.replicate 0 0)) := by simpa using hv'
  clear hv' hg HO HN hB
  go_loopw [3] (fun v wr => ∃ z : Nat, z ≤ gap l.length ∧ wr.ownsRow (w.heap.size + 1) 5 1 v ((l ++ [128]) ++ List.replicate z 0).length (bcells ((l ++ [128]) ++ List.replicate z 0)) ∧ Below (w.heap.size + 1) W0 wr) (fun v _ => l.length + 1 + gap l.length - sliceLen v)
  case atStart => exact ⟨0, by omega, hv0, hB'⟩
  case round =>
    clear hv0 hB'
    obtain ⟨z, hz, hown, hB⟩ := hrel
    have hlen : ((l ++ [128]) ++ List.replicate z 0).length = l.length + 1 + z := by simp; omega
    rw [hlen] at hown
    obtain ⟨a1, c1, rfl⟩ := ownsRow_slice hown
    have hgl := gap_lt l.length
    have hga := gap_at l.length z hz
    have hsz : w.heap.size + 1 ≤ wr.heap.size := by have := hB.size; rw [HW0.out, World.size_alloc] at this; exact this
    have HLEN := Lib.hid hlen
    clear hlen
    by_cases hlt : z < gap l.length
    · have hne : ¬ ((l.length + 1 + z) % 64 = 56) := by rw [hga]; omega
      have hq : (((((l.length + 1 + z : Nat) : Int)) % 64) != 56) = true := by rw [bne_iff_ne]; omega
      have hown' : wr.ownsRow (w.heap.size + 1) 5 1 (.slice a1 (l.length + 1 + z) c1) ((l ++ [128]) ++ List.replicate z 0).length (bcells ((l ++ [128]) ++ List.replicate z 0)) := by rw [HLEN.out]; exact hown
      have HO := Lib.hid (hown'.alloc (.cells #[.int .u8 ((0 : Nat) : Int)] 5))
      have HN := Lib.hid (bytes_new wr 0 (by omega))
      have hbl' : ((l ++ [128]) ++ List.replicate z 0).length + 1 ≤ 70368744177664 := by rw [HLEN.out]; omega
      have HBL := Lib.hid hbl'
      clear hown hown' hga hne hbl'
      go_wp2_with (at_builtin; refine append_bytes rfl _ _ rfl (w.heap.size + 1) _ _ rfl HO.out _ [0] rfl HN.out HBL.out (by simp; omega) ?_; intro v' w' hv' hg)
      have hB1 : Below (w.heap.size + 1) W0 w' := (hB.alloc hsz _).grown hg (by simp; omega) (fun j hj => (World.ownsRow.lt HO.out j hj).1)
      rw [List.append_assoc, ← List.replicate_succ'] at hv'
      refine ⟨⟨z + 1, by omega, hv', hB1⟩, ?_⟩
      obtain ⟨a2, c2, rfl⟩ := ownsRow_slice hv'
      simp only [sliceLen]
      simp
      omega
    · have hze : z = gap l.length := by omega
      have heq : (l.length + 1 + z) % 64 = 56 := hga.2 hze
      obtain ⟨y, hy⟩ : ∃ y, y = l.length + 1 + z := ⟨_, rfl⟩
      have hq : ((((y : Nat) : Int) % 64) != 56) = false := by rw [bne_eq_false_iff_eq]; omega
      have hv0 : wr.ownsRow (w.heap.size + 1) 5 1 (.slice a1 (l.length + 1 + z) c1) (((l ++ [128]) ++ List.replicate (gap l.length) 0) ++ tail8 (l.length * 8) 0).length (bcells (((l ++ [128]) ++ List.replicate (gap l.length) 0) ++ tail8 (l.length * 8) 0)) := by
        rw [← hze]; simp only [tail8, List.append_nil]; rw [HLEN.out]; exact hown
      have HV := Lib.hid hv0
      rw [← hy] at HV ⊢
      have hyb : y ≤ 70368744177664 := by omega
      clear hv0 hown hga heq hlt hze HLEN hz hy
      go_wp2
      obtain ⟨wo, rfl⟩ : ∃ wo : World, wo = wr := ⟨_, rfl⟩
      go_loopw [3, 5] (fun v i wr => ∃ k : Nat, k ≤ 8 ∧ i = .int .i64 (56 - 8 * (k : Int)) ∧ wr.ownsRow (w.heap.size + 1) 5 1 v (((l ++ [128]) ++ List.replicate (gap l.length) 0) ++ tail8 (l.length * 8) k).length (bcells (((l ++ [128]) ++ List.replicate (gap l.length) 0) ++ tail8 (l.length * 8) k)) ∧ Below (w.heap.size + 1) W0 wr) (fun _ i _ => (8 + (intOf i)).toNat)
      case atStart => exact ⟨0, by omega, rfl, HV.out, hB⟩
      case round =>
        clear HV hB hsz
        obtain ⟨k, hk, rfl, hown, hB⟩ := hrel
        have hlen : (((l ++ [128]) ++ List.replicate (gap l.length) 0) ++ tail8 (l.length * 8) k).length = l.length + 1 + gap l.length + k := by simp [tail8_length]; omega
        have hsz : w.heap.size + 1 ≤ wr.heap.size := by have := hB.size; rw [HW0.out, World.size_alloc] at this; exact this
        obtain ⟨nn, hnn⟩ : ∃ nn, nn = l.length + 1 + gap l.length + k := ⟨_, rfl⟩
        rw [hlen, ← hnn] at hown
        have HLEN : Hid (nn = (((l ++ [128]) ++ List.replicate (gap l.length) 0) ++ tail8 (l.length * 8) k).length) := hnn.trans hlen.symm
        have hnb : nn + 1 ≤ 70368744177664 := by omega
        have HNN := Lib.hid hnn
        clear hnn
        obtain ⟨a2, c2, rfl⟩ := ownsRow_slice hown
        by_cases hlt : k < 8
        · have hby : byteAt (l.length * 8) k < 256 := Nat.mod_lt _ (by decide)
          have hown' : wr.ownsRow (w.heap.size + 1) 5 1 (.slice a2 nn c2) (((l ++ [128]) ++ List.replicate (gap l.length) 0) ++ tail8 (l.length * 8) k).length (bcells (((l ++ [128]) ++ List.replicate (gap l.length) 0) ++ tail8 (l.length * 8) k)) := by rw [← HLEN.out]; exact hown
          have HO := Lib.hid (hown'.alloc (.cells #[.int .u8 ((byteAt (l.length * 8) k : Nat) : Int)] 5))
          have HN := Lib.hid (bytes_new wr _ hby)
          have HBL : Hid ((((l ++ [128]) ++ List.replicate (gap l.length) 0) ++ tail8 (l.length * 8) k).length + 1 ≤ 70368744177664) := by rw [← HLEN.out]; exact hnb
          have hts : Hid (tail8 (l.length * 8) (k + 1) = tail8 (l.length * 8) k ++ [byteAt (l.length * 8) k]) := rfl
          clear hown hown' hlen
          have hse : (56 - 8 * (k : Int)) = ((56 - 8 * k : Nat) : Int) := by omega
          rw [hse]
          obtain ⟨s, hs⟩ : ∃ s, s = 56 - 8 * k := ⟨_, rfl⟩
          have hx : ((byteAt (l.length * 8) k : Nat) : Int) = (l.length : Int) * 8 / 2 ^ s % 256 := by rw [byteAt, ← hs]; simp
          rw [hx] at HO HN
          rw [← hs]
          have hs56 : s ≤ 56 := by omega
          have HS := Lib.hid hs
          clear hs hse hx
          go_wp2_with (at_builtin; refine append_bytes rfl _ _ rfl (w.heap.size + 1) _ _ rfl HO.out _ [byteAt (l.length * 8) k] rfl HN.out HBL.out (by simp; omega) ?_; intro v' w' hv' hg)
          have hB1 : Below (w.heap.size + 1) W0 w' := (hB.alloc hsz _).grown hg (by simp; omega) (fun j hj => (World.ownsRow.lt HO.out j hj).1)
          rw [List.append_assoc, ← hts.out] at hv'
          have hse := HS.out
          refine ⟨⟨k + 1, by omega, ?_, hv', hB1⟩, ?_⟩
          · congr 1; omega
          · simp [intOf]; omega
        · have hk8 : k = 8 := by omega
          subst hk8
          have hpl : nn = (pad l).length := HLEN.out
          rw [show (((l ++ [128]) ++ List.replicate (gap l.length) 0) ++ tail8 (l.length * 8) 8) = pad l from rfl] at hown
          obtain ⟨hx1, hx2⟩ := hown
          rcases hx2 with ⟨_, hx0⟩ | ⟨g, cap, cur, hval, hbg, hcur, hncap, hcapm, hcs, htake⟩
          · exact absurd hx0 (by have := HNN.out; omega)
          simp only [Value.slice.injEq] at hval
          obtain ⟨rfl, _, rfl⟩ := hval
          have hpm := pad_mod l
          rw [← hpl] at hpm
          obtain ⟨m, hm⟩ : ∃ m, m = nn / 64 := ⟨_, rfl⟩
          rw [← hm] at hpm
          have HPM := Lib.hid hpm
          have HMM := Lib.hid hm
          have HPL := Lib.hid hpl
          have hcell : ∀ j, j < nn → wr.cell? ⟨g, j, none⟩ = some (.int .u8 (((pad l).getD j 0 : Nat) : Int)) := by
            intro j hj
            rw [cell_of_row _ _ _ _ _ _ hcur]
            have h1 : (cur.toList.take (nn * 1))[j]? = (bcells (pad l))[j]? := by rw [htake]
            rw [List.getElem?_take_of_lt (by omega), bcells_get, List.getElem?_eq_getElem (show j < (pad l).length by rw [← hpl]; exact hj)] at h1
            simpa [List.getD_eq_getElem?_getD, List.getElem?_eq_getElem (show j < (pad l).length by rw [← hpl]; exact hj)] using h1
          have HC := Lib.hid hcell
          have hgl2 : g < wr.heap.size := (Array.getElem?_eq_some_iff.1 hcur).1
          have hcap9 : c2 ≤ 9223372036854775807 := by unfold maxLen at hcapm; omega
          have hTW : Tables wr := by
            have h0 : Tables W0 := by rw [HW0.out]; exact HT.out.later ((Below.refl _ w).alloc (Nat.le_refl _) _)
            have hb0 := hB
            have hs0 : W0.heap.size = w.heap.size + 1 := by rw [HW0.out, World.size_alloc]
            rw [← hs0] at hb0
            exact h0.later hb0
          have hres : wr.heap[w.heap.size]? = some (.cells (ints .u8 zeros32) 23 (0, 0)) := by
            rw [hB.block _ (by omega), HW0.out, heap_alloc_new]
          have hBw : Below w.heap.size w wr := by
            have h0 : Below w.heap.size w W0 := by rw [HW0.out]; exact (Below.refl _ w).alloc (Nat.le_refl _) _
            exact h0.trans (hB.mono (by omega))
          obtain ⟨tb, htb⟩ := hTW.1
          obtain ⟨tr, htr⟩ := hTW.2
          have HTW := Lib.hid htb
          have HTR := Lib.hid htr
          clear htb htr
          have HRES := Lib.hid hres
          clear hTW hres hB hcell hcur htake hcs hx1 hpm hm hpl hcapm hlen hlt hk
          go_upto_region 11 with (first | ((with_reducible refine at_load 57 ?_); refine wpList_load_row rfl 57 _ rfl 0 rfl _ _ _ _ HTW.out Tryd.underlying57 rfl (by kernel_rfl) ?_) | ((with_reducible refine at_alloc 57 ?_); refine wpList_alloc_zero rfl 57 rfl _ alloc_eight ?_) | ((with_reducible refine at_store 57 ?_); refine wpList_store_row rfl 57 _ _ rfl _ _ rfl rfl _ _ (heap_alloc_new _ _) (by kernel_rfl) (by rfl) (one_ints _ _) ?_; rw [setRow_alloc_at _ _ _ _ _ rfl]))
          go_wp2_with (go_at_call 28; refine (chunk_any _ _ _ _).mono ?_; rintro e w2 ⟨rfl, hw2⟩)
          have k6 : w2.heap[wr.heap.size]? = some (.cells (ints .u32 begin0) 57 (0, 0)) := by
            rw [hw2, Below.heap_alloc _ _ _ (by simp; omega), Below.heap_alloc _ _ _ (by simp), heap_alloc_new]
          have k1 : w2.heap[wr.heap.size + 1]? = some (.cells #[.slice (some ⟨g, 0, none⟩) nn c2] 24 (0, 0)) := by
            rw [hw2, Below.heap_alloc _ _ _ (by simp), heap_alloc2_new]
          have k2 : w2.heap[wr.heap.size + 1 + 1]? = some (.cells #[.int .i64 64] 3 (0, 0)) := by
            have := heap_alloc2_new (wr.alloc (.cells (ints .u32 begin0) 57)) (.cells #[.slice (some ⟨g, 0, none⟩) nn c2] 24) (.cells #[.int .i64 64] 3)
            rw [World.size_alloc] at this
            rw [hw2]; exact this
          have hs2 : w2.heap.size = wr.heap.size + 3 := by rw [hw2]; simp
          have hbel : Below wr.heap.size wr w2 := by
            rw [hw2]
            exact (((Below.refl _ _).alloc (Nat.le_refl _) _).alloc (by simp) _).alloc (by simp; omega) _
          rw [← hw2]
          have HS2 := Lib.hid hs2
          have K1 : Hid (w2.heap[wr.heap.size + 1]? = some (.cells #[.slice (some ⟨g, 0, none⟩) (64 * m) c2] 24 (0, 0))) := by rw [← HPM.out]; exact k1
          have K2 := Lib.hid k2
          have K6 := Lib.hid k6
          clear k6 k1 k2 hw2 hs2
          refine (wpIn_wide (n := 9)).1 ?_
          have hs2 := HS2.out
          have hpm := HPM.out
          refine wpIn_rangeFunc_ownF (n := 9) rfl (by omega) (gf := 39) (lb := #[.pointer (some ⟨wr.heap.size + 1, 0, none⟩), .pointer (some ⟨wr.heap.size + 1 + 1, 0, none⟩)]) rfl trivial (enters_of Tryd.func39 (by kernel_rfl) rfl)
            (chunk_stops (9 - 1) (by omega) (wr.heap.size + 1) (wr.heap.size + 1 + 1) g m c2 (by omega) hcap9 (by omega) w2 (by omega) (by omega) K1.out K2.out)
            keepsTwo_t (keepsTwo_b (by omega) (by omega)) (Below.refl _ _) (fun _ => rfl)
            (RoundInv l m wr.heap.size w2) (fun _ _ _ => False) (roundInv_own l m wr.heap.size w2 (by omega)) (fun _ _ _ _ _ h _ _ => h.elim) ⟨K6.out, Below.refl _ _⟩ ?a1 ?assign ?body ?done ?stop
          case assign =>
            intro l' x W K hK
            gi_wp2
            exact hK
          case body =>
            intro l' pre x W hI hlen
            obtain ⟨hf, hbW⟩ := hI
            have q8 : Hid ((Tryd.prog.info? 57).map (·.size) = some (ints .u32 (pre.foldl (fun s x => more s (block (pad l) x.val)) begin0)).size) := by show _ = _; rw [size_ints, fold_length]; kernel_rfl
            have hx := x.isLt
            have hcw : ∀ j, j < 64 → W.cell? ⟨g, 64 * x.val + j, none⟩ = some (.int .u8 (((block (pad l) x.val).getD j 0 : Nat) : Int)) := by
              intro j hj
              rw [block_getD _ _ _ hj, hbW.cell (p := ⟨g, 64 * x.val + j, none⟩) hgl2, hbel.cell (p := ⟨g, 64 * x.val + j, none⟩) hgl2]
              exact HC.out _ (by omega)
            have h8b : ∀ j, (block (pad l) x.val).getD j 0 < 256 := by
              intro j
              refine getD_lt _ _ (by omega) (fun y hy => H8.out y ?_) j
              simp only [block] at hy
              exact List.mem_of_mem_drop (List.mem_of_mem_take hy)
            have hsW := hbW.size
            have hsB := hbel.size
            have hgW : W.heap[1]? = some (.cells (ints .u32 ks) tr (0, 0)) := by
              have h1 := HTR.out
              have h0 := (Array.getElem?_eq_some_iff.1 h1).1
              rw [hbW.block _ h0, hbel.block _ h0]; exact h1
            have q8' : Hid ((Tryd.prog.info? 57).map (·.size) = some (ints .u32 (more (pre.foldl (fun s x => more s (block (pad l) x.val)) begin0) (block (pad l) x.val))).size) := by show _ = _; rw [size_ints, more_length _ _ (fold_length _ _ _)]; kernel_rfl
            have z8' : Hid ((ints .u32 (pre.foldl (fun s x => more s (block (pad l) x.val)) begin0)).size = (ints .u32 (more (pre.foldl (fun s x => more s (block (pad l) x.val)) begin0) (block (pad l) x.val))).size) := by show _ = _; rw [size_ints, size_ints, more_length _ _ (fold_length _ _ _), fold_length]
            have hlB : wr.heap.size < W.heap.size := (Array.getElem?_eq_some_iff.1 hf).1
            have HF := Lib.hid hf
            have HCW := Lib.hid hcw
            have HGW := Lib.hid hgW
            have H8B := Lib.hid h8b
            clear hf hcw hgW h8b
            gi_wp2_with (first | ((with_reducible refine in_load 57 ?_); refine wpListIn_load_row rfl 57 _ rfl rfl wr.heap.size rfl _ _ _ _ HF.out Tryd.underlying57 rfl q8.out ?_) | (refine ⟨trivial, ?_⟩; gi_at_call 29; refine (CallsIn.inRound l' (callsIn_wide.2 (more_any _ (fold_length _ _ _) g (64 * x.val) 64 (block (pad l) x.val) _ HCW.out (by omega) H8B.out HGW.out (fold_lt _ _ _)))).mono ?_; rintro e W2 ⟨rfl, hB2⟩; have HF2 := Lib.hid ((hB2.block _ hlB).trans HF.out)) | ((with_reducible refine in_store 57 ?_); refine wpListIn_store_row rfl 57 _ _ rfl rfl wr.heap.size _ rfl rfl _ _ HF2.out q8'.out z8'.out (one_ints _ _) ?_))
            have hs2 := HS2.out
            refine ⟨⟨by simpa using hB2.size, fun k o hk ho => ?_⟩, ⟨?_, ?_⟩, ?_, ?_⟩
            · have hne : k ≠ wr.heap.size := by
                intro e
                subst e
                have := HF.out
                rw [hk] at this
                simp only [Option.some.injEq] at this
                subst this
                simp [Obj.isCells] at ho
              rw [heap_setRow_other _ hne]
              exact (hB2.block _ (Array.getElem?_eq_some_iff.1 hk).1).trans hk
            · rw [heap_setRow_other _ (by omega), hB2.block _ (by omega)]
            · rw [heap_setRow_other _ (by omega), hB2.block _ (by omega)]
            · rw [List.foldl_append]; exact heap_setRow HF2.out _
            · exact below_setRow (hbW.trans (hB2.mono (by omega))) (Nat.le_refl _) _
          case stop =>
            intro D c pre W _ _ h
            exact h.elim
          case done =>
            intro D xs W hD hS hI hK
            obtain ⟨hf, hbW⟩ := hI
            rw [state_foldl (pad l) m xs m hS] at hf
            have hwl : w.heap.size < wr.heap.size := by omega
            have hD2 : w.heap.size < D := by omega
            have hr : W.heap[w.heap.size]? = some (.cells (ints .u8 zeros32) 23 (0, 0)) := by rw [hbW.block _ hwl, hbel.block _ hwl]; exact HRES.out
            have hBW : Below w.heap.size w W := (hBw.trans (hbel.mono (by omega))).trans (hbW.mono (by omega))
            have hlen : (state (pad l) m).length = 8 := by rw [← state_foldl (pad l) m xs m hS]; exact fold_length _ _ _
            have hlt32 : ∀ j, (state (pad l) m).getD j 0 < 4294967296 := by rw [← state_foldl (pad l) m xs m hS]; exact fold_lt _ _ _
            have hhash : hashOf l = out (state (pad l) m) 32 := hashOf_eq l m (by rw [← HPL.out]; exact HMM.out)
            have hBs := hBW.size
            have hB6 : wr.heap.size < W.heap.size := (Array.getElem?_eq_some_iff.1 hf).1
            have hDl : D < W.heap.size := (Array.getElem?_eq_some_iff.1 hK).1
            have HH := Lib.hid hhash
            clear hS hbW HS2 K1 K2 K6 hs2 hpm hbel HTW HRES HC HMM HPL HPM hhash HNN HLEN HW0 HT H8
            generalize state (pad l) m = S at *
            generalize wr.heap.size = B6 at *
            have HF := Lib.hid hf
            have HR := Lib.hid hr
            have HK := Lib.hid hK
            have HLN := Lib.hid hlen
            clear hf hr hK hlen
            dsimp only
            go_wp2_with ((with_reducible refine at_alloc 23 ?_); refine wpList_alloc_zero rfl 23 rfl _ alloc_hash ?_)
            have hRw : Hid ((W.alloc (.cells (ints .u8 zeros32) 23)).heap[W.heap.size]? = some (.cells (ints .u8 (out S 0)) 23 (0, 0))) := heap_alloc_new _ _
            have HF' : Hid ((W.alloc (.cells (ints .u8 zeros32) 23)).heap[B6]? = some (.cells (ints .u32 S) 57 (0, 0))) := by show _ = _; rw [Below.heap_alloc _ _ _ hB6]; exact HF.out
            have HR' : Hid ((W.alloc (.cells (ints .u8 zeros32) 23)).heap[w.heap.size]? = some (.cells (ints .u8 zeros32) 23 (0, 0))) := by show _ = _; rw [Below.heap_alloc _ _ _ (by omega)]; exact HR.out
            have HK' : Hid ((W.alloc (.cells (ints .u8 zeros32) 23)).heap[D]? = some (.deferred (some []))) := by show _ = _; rw [Below.heap_alloc _ _ _ hDl]; exact HK.out
            have hBW' : Below w.heap.size w (W.alloc (.cells (ints .u8 zeros32) 23)) := hBW.alloc (by omega) _
            clear HF HR HK hBW
            obtain ⟨T8, hT8⟩ : ∃ n, n = W.heap.size := ⟨_, rfl⟩
            rw [← hT8] at hRw
            generalize W.alloc (.cells (ints .u8 zeros32) 23) = Wa at *
            go_loopw [9, 44] (fun _ i wr => ∃ k : Nat, k ≤ 32 ∧ i = .int .i64 k ∧ wr.heap[T8]? = some (.cells (ints .u8 (out S k)) 23 (0, 0)) ∧ wr.heap[B6]? = some (.cells (ints .u32 S) 57 (0, 0)) ∧ wr.heap[w.heap.size]? = some (.cells (ints .u8 zeros32) 23 (0, 0)) ∧ wr.heap[D]? = some (.deferred (some [])) ∧ Below w.heap.size w wr) (fun _ i _ => 32 - (intOf i).toNat)
            case atStart => exact ⟨0, by omega, rfl, hRw.out, HF'.out, HR'.out, HK'.out, hBW'⟩
            case round =>
              clear hRw HF' HR' HK' hBW'
              obtain ⟨k, hk, rfl, hx8, hx6, hx2, hxD, hB⟩ := hrel
              have hT6 : B6 < T8 := by omega
              rw [← hT8]
              clear hT8 hBs hDl hB6 hbg hgl2 hcap9 hncap hq hyb hnb hgl hbl hb1 hBw
              by_cases hlt : k < 32
              · have c1 := cell_ints hx6 (k / 4) (by have := HLN.out; omega)
                have c2 := cell_ints hx8 k (by rw [out_length]; exact hlt)
                have f2 := frozen_of_row wr T8 k _ _ hx8
                have X8 : Hid (∀ v : Nat, v = outAt S k → (wr.setCell ⟨T8, k, none⟩ (.int .u8 (v : Int))).heap[T8]? = some (.cells (ints .u8 (out S (k + 1))) 23 (0, 0))) := fun v hv => by rw [set_block hx8, hv]; rfl
                have hv : outAt S k = S.getD (k / 4) 0 / 2 ^ (24 - 8 * (k % 4)) % 256 := rfl
                have hv32 := hlt32 (k / 4)
                have HV := Lib.hid hv
                have X6 := Lib.hid hx6
                have X2 := Lib.hid hx2
                have XD := Lib.hid hxD
                clear hx8 hx6 hx2 hxD hv
                generalize S.getD (k / 4) 0 = x at *
                generalize (out S k).getD k 0 = was at *
                obtain ⟨q, hq⟩ : ∃ q, q = k / 4 := ⟨_, rfl⟩
                obtain ⟨sh, hsh⟩ : ∃ sh, sh = 24 - 8 * (k % 4) := ⟨_, rfl⟩
                rw [← hq] at c1
                rw [← hsh] at HV
                have k0 : (0 : Int) ≤ (k : Int) := by omega
                have k1 : (k : Int) < 32 := by omega
                have q0 : (k : Int) / 4 = (q : Int) := by omega
                have q1 : (0 : Int) ≤ (q : Int) := by omega
                have q2 : (q : Int) < 8 := by omega
                have s0 : 24 - 8 * ((k : Int) % 4) = (sh : Int) := by omega
                have s1 : (0 : Int) ≤ (sh : Int) := by omega
                have s2 : (sh : Int) < 32 := by omega
                have s3 : sh < 32 := by omega
                clear hq hsh
                go_wp2
                have hx : (x : Int) / 2 ^ sh % 256 = ((x / 2 ^ sh % 256 : Nat) : Int) := by simp
                rw [hx]
                refine ⟨⟨k + 1, by omega, by go_num, X8.out _ HV.out.symm, ?_, ?_, ?_, hB.setCell (p := ⟨T8, k, none⟩) (by simp; omega) _⟩, by simp [intOf]; omega⟩
                · exact (heap_setCell_other wr ⟨T8, k, none⟩ _ _ (by simp; omega)).trans X6.out
                · exact (heap_setCell_other wr ⟨T8, k, none⟩ _ _ (by simp; omega)).trans X2.out
                · exact (KeepsOthers.setCell _ _ _).same D _ XD.out rfl
              · have hk' : k = 32 := by omega
                subst hk'
                have HX := Lib.hid hx8
                have H2 := Lib.hid hx2
                have HD := Lib.hid hxD
                clear hx8 hx2 hx6 hxD hlt hk
                have q32 : Hid ((Tryd.prog.info? 23).map (·.size) = some (ints .u8 (out S 32)).size) := by show _ = _; rw [size_ints, out_length]; kernel_rfl
                have z32 : Hid ((ints .u8 zeros32).size = (ints .u8 (out S 32)).size) := by show _ = _; rw [size_ints, size_ints, out_length]; rfl
                rw [show ((32 : Nat) : Int) = 32 from rfl]
                go_wp2_with (first | ((with_reducible refine at_load 23 ?_); refine wpList_load_row rfl 23 _ rfl T8 rfl _ _ _ _ HX.out Tryd.underlying23 rfl q32.out ?_) | ((with_reducible refine at_store 23 ?_); refine wpList_store_row rfl 23 _ _ rfl w.heap.size _ rfl rfl _ _ H2.out q32.out z32.out (one_ints _ _) ?_))
                have hKD : (wr.setRow w.heap.size (ints .u8 (out S 32))).heap[D]? = some (.deferred (some [])) := by rw [heap_setRow_other _ (by omega)]; exact HD.out
                refine ⟨by simp, .inl ⟨_, _, rfl, run_takeDeferred hKD, ?_⟩⟩
                refine ⟨_, results_cell_row rfl _ _ w.heap.size 23 (ints .u8 (out S 32)) (0, 0) _ rfl ((World.putObj_heap_other (by omega)).trans (heap_setRow H2.out _)) Tryd.underlying23 rfl q32.out, ?_⟩
                exact ⟨by rw [HH.out], (below_setRow hB (Nat.le_refl _) _).trans (belowK_b (w := w) (Nat.le_refl _) _ D _ _ (by omega) hKD rfl rfl)⟩
end Go.Proofs.YtifcdmfkojhdnaaDoor
