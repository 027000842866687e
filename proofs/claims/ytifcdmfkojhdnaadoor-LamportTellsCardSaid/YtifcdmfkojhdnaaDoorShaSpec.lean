/-
  Plain mathematics of SHA-256: the numbers of 64 bytes, the turns, the hash of bytes. No program in it.
-/
namespace Go.Proofs.YtifcdmfkojhdnaaDoor
namespace Sha

/-- A number's 32 bits turned to the right. -/
def rotr (x n : Nat) : Nat := (x * 2 ^ (32 - n)) % 4294967296 ||| x / 2 ^ n

def sg0 (x : Nat) : Nat := (rotr x 7 ^^^ rotr x 18) ^^^ x / 8
def sg1 (x : Nat) : Nat := (rotr x 17 ^^^ rotr x 19) ^^^ x / 1024
def bg0 (x : Nat) : Nat := (rotr x 2 ^^^ rotr x 13) ^^^ rotr x 22
def bg1 (x : Nat) : Nat := (rotr x 6 ^^^ rotr x 11) ^^^ rotr x 25
def ch (e f g : Nat) : Nat := (e &&& f) ^^^ ((4294967295 - e) &&& g)
def maj (a b c : Nat) : Nat := ((a &&& b) ^^^ (a &&& c)) ^^^ (b &&& c)

/-- Four bytes as a number. -/
def word (bs : List Nat) (i : Nat) : Nat := bs.getD (4 * i) 0 * 16777216 + bs.getD (4 * i + 1) 0 * 65536 + bs.getD (4 * i + 2) 0 * 256 + bs.getD (4 * i + 3) 0

/-- 64 noughts. -/
def zeros64 : List Nat := List.replicate 64 0
/-- The first numbers, i of them, of 64. -/
def row0 (bs : List Nat) : Nat → List Nat
  | 0 => zeros64
  | i + 1 => (row0 bs i).set i (word bs i)
/-- The number behind others. -/
def next (w : List Nat) (i : Nat) : Nat := (w.getD (i - 16) 0 + w.getD (i - 7) 0 + sg0 (w.getD (i - 15) 0) + sg1 (w.getD (i - 2) 0)) % 4294967296
def row1 (bs : List Nat) : Nat → List Nat
  | 0 => row0 bs 16
  | i + 1 => (row1 bs i).set (16 + i) (next (row1 bs i) (16 + i))
/-- The 64 numbers of 64 bytes. -/
def row (bs : List Nat) : List Nat := row1 bs 48

/-- Eight noughts. -/
def zeros8 : List Nat := List.replicate 8 0
/-- The numbers of the turns. -/
def ks : List Nat := [1116352408, 1899447441, 3049323471, 3921009573, 961987163, 1508970993, 2453635748, 2870763221, 3624381080, 310598401, 607225278, 1426881987, 1925078388, 2162078206, 2614888103, 3248222580, 3835390401, 4022224774, 264347078, 604807628, 770255983, 1249150122, 1555081692, 1996064986, 2554220882, 2821834349, 2952996808, 3210313671, 3336571891, 3584528711, 113926993, 338241895, 666307205, 773529912, 1294757372, 1396182291, 1695183700, 1986661051, 2177026350, 2456956037, 2730485921, 2820302411, 3259730800, 3345764771, 3516065817, 3600352804, 4094571909, 275423344, 430227734, 506948616, 659060556, 883997877, 958139571, 1322822218, 1537002063, 1747873779, 1955562222, 2024104815, 2227730452, 2361852424, 2428436474, 2756734187, 3204031479, 3329325298]
/-- The numbers at the beginning. -/
def begin0 : List Nat := [1779033703, 3144134277, 1013904242, 2773480762, 1359893119, 2600822924, 528734635, 1541459225]

/-- Eight numbers behind one turn. -/
def turn (v : List Nat) (k w : Nat) : List Nat :=
  let t := (v.getD 7 0 + bg1 (v.getD 4 0) + ch (v.getD 4 0) (v.getD 5 0) (v.getD 6 0) + k + w) % 4294967296
  let u := (bg0 (v.getD 0 0) + maj (v.getD 0 0) (v.getD 1 0) (v.getD 2 0)) % 4294967296
  [(t + u) % 4294967296, v.getD 0 0, v.getD 1 0, v.getD 2 0, (v.getD 3 0 + t) % 4294967296, v.getD 4 0, v.getD 5 0, v.getD 6 0]
def turns (s ws : List Nat) : Nat → List Nat
  | 0 => s
  | i + 1 => turn (turns s ws i) (ks.getD i 0) (ws.getD i 0)
/-- The sums of eight numbers and of what they came to, of the first i. -/
def sums (s v : List Nat) : Nat → List Nat
  | 0 => s
  | i + 1 => (sums s v i).set i (((sums s v i).getD i 0 + v.getD i 0) % 4294967296)
/-- Eight numbers behind 64 bytes more. -/
def more (s bs : List Nat) : List Nat := sums s (turns s (row bs) 64) 8

/-- 32 noughts. -/
def zeros32 : List Nat := List.replicate 32 0
/-- A number's eight bytes, the highest one first. -/
def byteAt (n k : Nat) : Nat := n / 2 ^ (56 - 8 * k) % 256
def tail8 (n : Nat) : Nat → List Nat
  | 0 => []
  | k + 1 => tail8 n k ++ [byteAt n k]
/-- How many noughts are put behind so many bytes. -/
def gap (n : Nat) : Nat := (119 - n % 64) % 64
/-- Bytes, made up to whole blocks. -/
def pad (l : List Nat) : List Nat := (l ++ [128] ++ List.replicate (gap l.length) 0) ++ tail8 (l.length * 8) 8
def block (p : List Nat) (i : Nat) : List Nat := (p.drop (64 * i)).take 64
def state (p : List Nat) : Nat → List Nat
  | 0 => begin0
  | i + 1 => more (state p i) (block p i)
def outAt (s : List Nat) (i : Nat) : Nat := s.getD (i / 4) 0 / 2 ^ (24 - 8 * (i % 4)) % 256
def out (s : List Nat) : Nat → List Nat
  | 0 => zeros32
  | i + 1 => (out s i).set i (outAt s i)
/-- The hash of bytes. -/
def hashOf (l : List Nat) : List Nat := out (state (pad l) ((pad l).length / 64)) 32

end Sha
end Go.Proofs.YtifcdmfkojhdnaaDoor
