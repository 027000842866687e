/-
  A table's keys, rising; what lies beside a map stays. (score)
-/
import Derived.Test.YtddfiennoekjpaaSLib
namespace Go.Proofs.Ytddfiennoekjpaa
open Go.RowKit Go.Maps Go.Sort

/-- The keys that are there. -/
def keysAt {H : Type} (many : Nat) (D : DataW H) : List Nat := (List.range many).filter fun k => Maps.has D (.int .i64 (k : Int))
theorem keysAt_nodup {H : Type} (many : Nat) (D : DataW H) : (keysAt many D).Nodup := List.Pairwise.filter _ List.nodup_range
theorem keysAt_lt {H : Type} (many : Nat) (D : DataW H) : ∀ k ∈ keysAt many D, k < many := fun _ hk => List.mem_range.1 (List.mem_filter.1 hk).1
theorem keysAt_len {H : Type} (many : Nat) (D : DataW H) : (keysAt many D).length ≤ many := by
  have := List.length_filter_le (fun (k : Nat) => Maps.has D (.int .i64 (k : Int))) (List.range many)
  rwa [List.length_range] at this
section
variable {w : World} {mb many N : Nat} {D : DataW Unit}
theorem keys_perm (hown : w.ownsMap Try.prog 3 peerElem mb N D) (hh : ∀ kl, Maps.has D kl = true → ∃ k : Nat, k < many ∧ kl = .int .i64 (k : Int)) : ((keysAt many D).map fun (k : Nat) => (k : Int)).Perm (intKeys D) := by
  refine CollectedI.perm (left := fun _ => false) ⟨?_, fun x => ?_⟩ hown lawInt Try.underlying3 (fun _ => rfl)
  · refine List.pairwise_map.2 ((keysAt_nodup many D).imp ?_)
    intro a b hab e
    exact hab (by omega)
  · rw [List.mem_map]
    constructor
    · rintro ⟨k, hk, rfl⟩
      exact ⟨(List.mem_filter.1 hk).2, rfl⟩
    · rintro ⟨hx, _⟩
      obtain ⟨k, hk, e⟩ := hh _ hx
      simp only [Lit.int.injEq, true_and] at e
      subst e
      exact ⟨k, List.mem_filter.2 ⟨List.mem_range.2 hk, hx⟩, rfl⟩
theorem keys_sorted (hown : w.ownsMap Try.prog 3 peerElem mb N D) (hh : ∀ kl, Maps.has D kl = true → ∃ k : Nat, k < many ∧ kl = .int .i64 (k : Int)) {ss : List Int} (hp : ss.Perm (intKeys D)) : (ss.mergeSort leI).map encZ = ncells (keysAt many D) := by
  rw [mergeSort_of_perm_i (hp.trans (keys_perm hown hh).symm), List.mergeSort_of_pairwise]
  · simp [ncells, Function.comp_def]
  · refine List.pairwise_map.2 ?_
    refine List.Pairwise.filter _ (List.pairwise_lt_range.imp ?_)
    intro a b hab
    simp only [leI, decide_eq_true_eq]
    omega
theorem sorted_nat (hown : w.ownsMap Try.prog 3 peerElem mb N D) (hh : ∀ kl, Maps.has D kl = true → ∃ k : Nat, k < many ∧ kl = .int .i64 (k : Int)) (hN : N < 1000000) :
    Calls Try.prog 22 #[.func (.func 28) #[] #[.pointer (some ⟨w.heap.size, 0, none⟩)]] (w.alloc (.cells #[.map (some mb)] 58)) fun e w' => ∃ v, e = .returned v ∧ NumRow w' w.heap.size v (keysAt many D) ∧ Below w.heap.size w w' := by
  have hs := hown.size_le
  refine (sorted_call mb N D peerElem w hown (by unfold maxLen; omega) (by omega)).mono ?_
  rintro e w' ⟨v, ss, rfl, hS, hrow, _, hb⟩
  refine ⟨v, rfl, ?_, hb⟩
  have hl : ss.length = (keysAt many D).length := by rw [(hS.trans (keys_perm hown hh).symm).length_eq, List.length_map]
  rw [hl] at hrow
  unfold NumRow
  rw [← keys_sorted hown hh hS]
  exact hrow
end
theorem grown_then {W w w' : World} {mb e s n : Nat} {v : Value} {xs : List Value} (h : W.grownBy w (some mb)) (hown : w.ownsRow W.heap.size e s v n xs) (hg : w.grownBy w' v.ownBlock) : W.grownBy w' (some mb) :=
  ⟨hg.os.trans h.os, hg.tape.trans h.tape, hg.output.trans h.output, Nat.le_trans h.size hg.size, fun k hk hn => (hg.block k (Nat.lt_of_lt_of_le hk h.size) (owns_ge hown k hk)).trans (h.block k hk hn)⟩
theorem grown_trans {w w' w'' : World} {row : Option Nat} (h : w.grownBy w' row) (h2 : w'.grownBy w'' row) : w.grownBy w'' row :=
  ⟨h2.os.trans h.os, h2.tape.trans h.tape, h2.output.trans h.output, Nat.le_trans h.size h2.size, fun k hk hn => (h2.block k (Nat.lt_of_lt_of_le hk h.size) hn).trans (h.block k hk hn)⟩
theorem Tab.isMap {w : World} {tb mb many limit hold N : Nat} {f : Nat → Nat × Nat} (h : Tab w tb mb many limit hold f N) : ∃ o, w.heap[mb]? = some o ∧ ∀ c t fr, o ≠ .cells c t fr := by
  obtain ⟨D, ⟨es, c, hb, _⟩, _⟩ := h.map
  exact ⟨_, hb, fun _ _ _ e => by cases e⟩
end Go.Proofs.Ytddfiennoekjpaa
