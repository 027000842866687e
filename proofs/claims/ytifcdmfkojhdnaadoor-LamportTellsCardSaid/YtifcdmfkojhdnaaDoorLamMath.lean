/-
  Signatures that are used once: plain mathematics. No program in it.
-/
import Derived.Test.YtifcdmfkojhdnaaDoorShaFast
namespace Go.Proofs.YtifcdmfkojhdnaaDoor
namespace Lam
open Sha
section
variable (H : List Nat → List Nat)
/-- A number in four bytes. -/
def be4 (x : Nat) : List Nat := [x / 16777216 % 256, x / 65536 % 256, x / 256 % 256, x % 256]
/-- The secret of a bit's value. -/
def secretG (seed : List Nat) (idx bit val : Nat) : List Nat := H (seed ++ be4 idx ++ [bit] ++ [val])
/-- A bit of a hash. -/
def bitL (h : List Nat) (k : Nat) : Nat := h.getD (k / 8) 0 / 2 ^ (7 - k % 8) % 2
def shown (seed : List Nat) (idx : Nat) (hb : List Nat) (j : Nat) : List Nat :=
  if j % 2 = bitL hb (j / 2) then secretG H seed idx (j / 2) (j % 2) else H (secretG H seed idx (j / 2) (j % 2))
def signG (seed : List Nat) (idx : Nat) (hb : List Nat) : List (List Nat) := (List.range 128).map (shown H seed idx hb)
def publicG (seed : List Nat) (idx : Nat) : List Nat := H ((List.range 128).map fun j => H (secretG H seed idx (j / 2) (j % 2))).flatten
def opened (hb : List Nat) (ss : List (List Nat)) (j : Nat) : List Nat := if j % 2 = bitL hb (j / 2) then H (ss.getD j []) else ss.getD j []
def fromG (hb : List Nat) (ss : List (List Nat)) : List Nat := H ((List.range 128).map (opened H hb ss)).flatten
theorem from_sign (seed : List Nat) (idx : Nat) (hb : List Nat) : fromG H hb (signG H seed idx hb) = publicG H seed idx := by
  unfold fromG publicG
  congr 2
  apply List.map_congr_left
  intro j hj
  have hj' := List.mem_range.1 hj
  unfold opened signG
  rw [List.getD_eq_getElem?_getD, List.getElem?_map, List.getElem?_range hj']
  simp only [Option.map_some, Option.getD_some, shown]
  split <;> rfl
end
def seed1 : List Nat := 1 :: List.replicate 31 0
/-- What the document's example comes to. -/
def chk (H : List Nat → List Nat) : Bool := 
  let p := publicG H seed1 3
  !(fromG H (H [98]) (signG H seed1 3 (H [97])) == p) && !(p == zeros32) && !(H [0] == zeros32)
set_option maxRecDepth 100000 in
theorem chk_fast : chk hashF = true := by decide +kernel
theorem chk_true : chk hashOf = true := by
  rw [funext hash_fast]; exact chk_fast
end Lam
end Go.Proofs.YtifcdmfkojhdnaaDoor
