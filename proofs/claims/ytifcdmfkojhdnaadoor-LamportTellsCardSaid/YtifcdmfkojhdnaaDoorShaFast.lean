/-
  SHA-256, reckoned quickly: plain mathematics. No program in it.
-/
import Derived.Test.YtifcdmfkojhdnaaDoorShaSpec
namespace Go.Proofs.YtifcdmfkojhdnaaDoor
namespace Sha
section
theorem row0_len (bs : List Nat) : ∀ i, (row0 bs i).length = 64
  | 0 => by simp [row0, zeros64]
  | i + 1 => by rw [row0, List.length_set]; exact row0_len bs i
theorem row1_len (bs : List Nat) : ∀ i, (row1 bs i).length = 64
  | 0 => row0_len bs 16
  | i + 1 => by rw [row1, List.length_set]; exact row1_len bs i
theorem take_set_one (l : List Nat) (k x : Nat) (hk : k < l.length) : (l.set k x).take (k + 1) = l.take k ++ [x] := by
  rw [List.take_succ_eq_append_getElem (by simpa using hk), List.take_set_of_le (Nat.le_refl _)]
  simp
/-- A number is reckoned before it is handed on. -/
def fc {α : Type} (x : Nat) (k : Nat → α) : α := Nat.rec (k 0) (fun n _ => k (n + 1)) x
theorem fc_eq {α : Type} (x : Nat) (k : Nat → α) : fc x k = k x := by cases x <;> rfl

/-- The numbers behind a window of sixteen. -/
def sched : Nat → List Nat → List Nat
  | n + 1, w0 :: w1 :: w2 :: w3 :: w4 :: w5 :: w6 :: w7 :: w8 :: w9 :: w10 :: w11 :: w12 :: w13 :: w14 :: w15 :: _ =>
    fc ((w0 + w9 + sg0 w1 + sg1 w14) % 4294967296) fun x => w0 :: sched n [w1, w2, w3, w4, w5, w6, w7, w8, w9, w10, w11, w12, w13, w14, w15, x]
  | _, l => l
def parts (bs : List Nat) (k : Nat) : List Nat := (row1 bs k).take (16 + k)
theorem parts_succ (bs : List Nat) (k : Nat) (hk : k < 48) : parts bs (k + 1) = parts bs k ++ [next (row1 bs k) (16 + k)] := by
  unfold parts
  rw [row1, show 16 + (k + 1) = 16 + k + 1 by omega, take_set_one _ _ _ (by rw [row1_len]; omega)]
theorem parts_len (bs : List Nat) (k : Nat) (hk : k ≤ 48) : (parts bs k).length = 16 + k := by unfold parts; rw [List.length_take, row1_len]; omega
theorem parts_getD (bs : List Nat) (k j : Nat) (hj : j < 16 + k) : (parts bs k).getD j 0 = (row1 bs k).getD j 0 := by
  unfold parts
  rw [List.getD_eq_getElem?_getD, List.getD_eq_getElem?_getD, List.getElem?_take_of_lt hj]
theorem parts_all (bs : List Nat) : parts bs 48 = row bs := by unfold parts row; rw [List.take_of_length_le (by rw [row1_len]; omega)]
theorem sixteen {l : List Nat} (h : l.length = 16) : ∃ a0 a1 a2 a3 a4 a5 a6 a7 a8 a9 a10 a11 a12 a13 a14 a15, l = [a0, a1, a2, a3, a4, a5, a6, a7, a8, a9, a10, a11, a12, a13, a14, a15] := by
  match l, h with
  | [a0, a1, a2, a3, a4, a5, a6, a7, a8, a9, a10, a11, a12, a13, a14, a15], _ => exact ⟨_, _, _, _, _, _, _, _, _, _, _, _, _, _, _, _, rfl⟩
theorem sched_eq (bs : List Nat) : ∀ n k, k + n = 48 → sched n ((parts bs k).drop k) = (parts bs 48).drop k
  | 0, k, h => by obtain rfl : k = 48 := by omega
                  cases (parts bs 48).drop 48 <;> rfl
  | n + 1, k, h => by
    have ih := sched_eq bs n (k + 1) (by omega)
    have hs := parts_succ bs k (by omega)
    obtain ⟨a0, a1, a2, a3, a4, a5, a6, a7, a8, a9, a10, a11, a12, a13, a14, a15, e⟩ := sixteen (l := (parts bs k).drop k) (by rw [List.length_drop, parts_len _ _ (by omega)]; omega)
    have hg : ∀ j, j < 16 → (row1 bs k).getD (k + j) 0 = ((parts bs k).drop k).getD j 0 := fun j hj => by
      rw [← parts_getD bs k (k + j) (by omega), List.getD_eq_getElem?_getD, List.getD_eq_getElem?_getD, List.getElem?_drop]
    have hx : next (row1 bs k) (16 + k) = (a0 + a9 + sg0 a1 + sg1 a14) % 4294967296 := by
      unfold next
      rw [show 16 + k - 16 = k + 0 by omega, show 16 + k - 7 = k + 9 by omega, show 16 + k - 15 = k + 1 by omega, show 16 + k - 2 = k + 14 by omega, hg 0 (by omega), hg 9 (by omega), hg 1 (by omega), hg 14 (by omega), e]
      rfl
    have hd : (parts bs (k + 1)).drop (k + 1) = [a1, a2, a3, a4, a5, a6, a7, a8, a9, a10, a11, a12, a13, a14, a15, (a0 + a9 + sg0 a1 + sg1 a14) % 4294967296] := by
      rw [hs, List.drop_append_of_le_length (by rw [parts_len _ _ (by omega)]; omega), ← List.drop_drop (i := 1) (j := k), e, hx]
      rfl
    rw [hd] at ih
    rw [e, sched, fc_eq, ih]
    have pre : ∀ m, k + 1 ≤ m → m ≤ 48 → (parts bs m)[k]? = some a0 := by
      intro m
      induction m with
      | zero => intro h1; omega
      | succ m ihm =>
        intro h1 h3
        have e0 : (parts bs k)[k]? = some a0 := by
          have := congrArg (fun l : List Nat => l[0]?) e
          simpa [List.getElem?_drop] using this
        rw [parts_succ bs m (by omega), List.getElem?_append_left (by rw [parts_len _ _ (by omega)]; omega)]
        rcases Nat.lt_or_ge k m with h4 | h4
        · exact ihm (by omega) (by omega)
        · obtain rfl : m = k := by omega
          exact e0
    have h2 : ∀ L : List Nat, L[k]? = some a0 → L.drop k = a0 :: L.drop (k + 1) := fun L h => by
      have hlt := (List.getElem?_eq_some_iff.1 h).1
      rw [List.drop_eq_getElem_cons hlt, (List.getElem?_eq_some_iff.1 h).2]
    rw [h2 _ (pre 48 (by omega) (by omega))]

/-- The turns, from the front. -/
def go : List Nat → List Nat → Nat → Nat → Nat → Nat → Nat → Nat → Nat → Nat → List Nat
  | k :: ks, w :: ws, a, b, c, d, e, f, g, h =>
    fc ((h + bg1 e + ch e f g + k + w) % 4294967296) fun t => fc ((bg0 a + maj a b c) % 4294967296) fun u => fc ((t + u) % 4294967296) fun x => fc ((d + t) % 4294967296) fun y => go ks ws x a b c y e f g
  | _, _, a, b, c, d, e, f, g, h => [a, b, c, d, e, f, g, h]
def goL (ks ws v : List Nat) : List Nat := match v with
  | [a, b, c, d, e, f, g, h] => go ks ws a b c d e f g h
  | l => l
theorem eight {l : List Nat} (h : l.length = 8) : ∃ a b c d e f g i, l = [a, b, c, d, e, f, g, i] := by
  match l, h with
  | [a, b, c, d, e, f, g, i], _ => exact ⟨_, _, _, _, _, _, _, _, rfl⟩
theorem turns_len (s ws : List Nat) (hs : s.length = 8) : ∀ i, (turns s ws i).length = 8
  | 0 => hs
  | _ + 1 => rfl
theorem turn_eq (a b c d e f g j k w : Nat) : turn [a, b, c, d, e, f, g, j] k w = [((j + bg1 e + ch e f g + k + w) % 4294967296 + (bg0 a + maj a b c) % 4294967296) % 4294967296, a, b, c, (d + (j + bg1 e + ch e f g + k + w) % 4294967296) % 4294967296, e, f, g] := rfl
theorem goL_eq (s ws : List Nat) (hs : s.length = 8) (hw : ws.length = 64) : ∀ n i, i + n = 64 → goL (ks.drop i) (ws.drop i) (turns s ws i) = turns s ws 64
  | 0, i, h => by
    obtain rfl : i = 64 := by omega
    obtain ⟨a, b, c, d, e, f, g, j, ev⟩ := eight (turns_len s ws hs 64)
    rw [ev, show ks.drop 64 = [] from rfl]
    rfl
  | n + 1, i, h => by
    have ih := goL_eq s ws hs hw n (i + 1) (by omega)
    have hk : ks.drop i = ks.getD i 0 :: ks.drop (i + 1) := by
      have hl : i < ks.length := by show i < 64; omega
      rw [List.drop_eq_getElem_cons hl, List.getD_eq_getElem?_getD, List.getElem?_eq_getElem hl]; rfl
    have hx : ws.drop i = ws.getD i 0 :: ws.drop (i + 1) := by
      have hl : i < ws.length := by omega
      rw [List.drop_eq_getElem_cons hl, List.getD_eq_getElem?_getD, List.getElem?_eq_getElem hl]; rfl
    rw [← ih, hk, hx, turns]
    obtain ⟨a, b, c, d, e, f, g, j, ev⟩ := eight (turns_len s ws hs i)
    rw [ev, turn_eq]
    simp only [goL, go, fc_eq]
/-- Eight numbers behind sixteen words more. -/
def moreF (s ws : List Nat) : List Nat := match s, goL ks (sched 48 ws) s with
  | [a, b, c, d, e, f, g, h], [a', b', c', d', e', f', g', h'] => fc ((a + a') % 4294967296) fun a => fc ((b + b') % 4294967296) fun b => fc ((c + c') % 4294967296) fun c => fc ((d + d') % 4294967296) fun d => fc ((e + e') % 4294967296) fun e => fc ((f + f') % 4294967296) fun f => fc ((g + g') % 4294967296) fun g => fc ((h + h') % 4294967296) fun h => [a, b, c, d, e, f, g, h]
  | _, _ => []
/-- The words of bytes. -/
def words : List Nat → List Nat
  | a :: b :: c :: d :: r => fc (a * 16777216 + b * 65536 + c * 256 + d) fun w => w :: words r
  | _ => []
theorem row0_take (bs : List Nat) : ∀ i, i ≤ 64 → (row0 bs i).take i = (List.range i).map (word bs)
  | 0, _ => rfl
  | i + 1, h => by
    rw [row0, take_set_one _ _ _ (by rw [row0_len]; omega), row0_take bs i (by omega), List.range_succ, List.map_append]
    rfl
theorem words_eq : ∀ (n : Nat) (bs : List Nat), bs.length = 4 * n → words bs = (List.range n).map (word bs)
  | 0, bs, h => by obtain rfl : bs = [] := List.eq_nil_of_length_eq_zero (by omega)
                   rfl
  | n + 1, bs, h => by
    match bs, h with
    | a :: b :: c :: d :: r, h =>
      have ih := words_eq n r (by simpa using (by simp at h; omega : r.length = 4 * n))
      rw [words, fc_eq, ih, List.range_succ_eq_map, List.map_cons, List.map_map]
      congr 1
theorem more_fast (s bs : List Nat) (hs : s.length = 8) (hb : bs.length = 64) : more s bs = moreF s (words bs) := by
  have h1 : words bs = (parts bs 0).drop 0 := by
    rw [words_eq 16 bs (by omega), ← row0_take bs 16 (by omega)]; rfl
  have h2 : sched 48 (words bs) = row bs := by
    rw [h1, sched_eq bs 48 0 rfl, parts_all]; rfl
  have h3 := goL_eq s (row bs) hs (row1_len bs 48) 64 0 rfl
  rw [List.drop_zero, List.drop_zero] at h3
  unfold moreF more
  have h4 : goL ks (row bs) s = turns s (row bs) 64 := h3
  rw [h2, h4]
  have hl := turns_len s (row bs) hs 64
  generalize turns s (row bs) 64 = v at *
  obtain ⟨a, b, c, d, e, f, g, i, rfl⟩ := eight hs
  obtain ⟨a', b', c', d', e', f', g', i', rfl⟩ := eight hl
  simp only [fc_eq]
  rfl
/-- The numbers behind blocks. -/
def stateF : Nat → List Nat → List Nat → List Nat
  | 0, _, s => s
  | n + 1, p, s => stateF n (p.drop 64) (moreF s (words (p.take 64)))
theorem more_len (s bs : List Nat) (hs : s.length = 8) : (more s bs).length = 8 := by
  have : ∀ v i, (sums s v i).length = 8 := by
    intro v i
    induction i with
    | zero => exact hs
    | succ i ih => rw [sums, List.length_set]; exact ih
  exact this _ 8
theorem state_len (p : List Nat) : ∀ i, (state p i).length = 8
  | 0 => rfl
  | i + 1 => more_len _ _ (state_len p i)
theorem state_fast (p : List Nat) : ∀ n i, 64 * (i + n) ≤ p.length → stateF n (p.drop (64 * i)) (state p i) = state p (i + n)
  | 0, i, _ => rfl
  | n + 1, i, h => by
    have ih := state_fast p n (i + 1) (by omega)
    rw [stateF, List.drop_drop, show 64 * i + 64 = 64 * (i + 1) by omega, ← more_fast _ _ (state_len p i) (by rw [List.length_take, List.length_drop]; omega)]
    rw [show i + (n + 1) = i + 1 + n by omega, ← ih]
    rfl
def bytesF : List Nat → List Nat
  | [] => []
  | x :: r => x / 16777216 % 256 :: x / 65536 % 256 :: x / 256 % 256 :: x % 256 :: bytesF r
theorem out_get (s : List Nat) : ∀ k, k ≤ 32 → (out s k).take k = (List.range k).map (outAt s)
  | 0, _ => rfl
  | k + 1, h => by
    have hl : ∀ j, (out s j).length = 32 := by
      intro j
      induction j with
      | zero => simp [out, zeros32]
      | succ j ih => rw [out, List.length_set]; exact ih
    rw [out, take_set_one _ _ _ (by rw [hl]; omega), out_get s k (by omega), List.range_succ, List.map_append]
    rfl
theorem out_fast (s : List Nat) (hs : s.length = 8) : out s 32 = bytesF s := by
  have h := out_get s 32 (Nat.le_refl _)
  have hl : ∀ j, (out s j).length = 32 := by
    intro j
    induction j with
    | zero => simp [out, zeros32]
    | succ j ih => rw [out, List.length_set]; exact ih
  rw [List.take_of_length_le (by rw [hl]; omega)] at h
  rw [h]
  obtain ⟨a, b, c, d, e, f, g, i, rfl⟩ := eight hs
  simp [List.range_succ_eq_map, outAt, bytesF]
/-- The hash of bytes, quickly. -/
def hashF (l : List Nat) : List Nat := bytesF (stateF ((pad l).length / 64) (pad l) begin0)
theorem hash_fast (l : List Nat) : hashOf l = hashF l := by
  unfold hashOf hashF
  have := state_fast (pad l) ((pad l).length / 64) 0 (by omega)
  rw [Nat.mul_zero, List.drop_zero, Nat.zero_add] at this
  rw [show state (pad l) 0 = begin0 from rfl] at this
  rw [this, out_fast _ (state_len _ _)]
end
end Sha
end Go.Proofs.YtifcdmfkojhdnaaDoor
