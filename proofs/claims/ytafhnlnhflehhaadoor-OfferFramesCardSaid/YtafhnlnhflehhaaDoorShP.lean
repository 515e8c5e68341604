/- Plain laws on SHA-1 over numbers: no program in sight. -/
import Init.Data.List.Lemmas
namespace Go.Proofs.YtafhnlnhflehhaaDoor
def rol (x n : Nat) : Nat := (x <<< n) % 4294967296 ||| (x >>> (32 - n))
def numB (l : List Nat) : Nat := l.foldl (fun x c => x * 256 + c) 0
def wnext (bl W : List Nat) (t : Nat) : Nat := if t < 16 then numB ((bl.drop (4 * t)).take 4) else rol (W.getD (t - 3) 0 ^^^ W.getD (t - 8) 0 ^^^ W.getD (t - 14) 0 ^^^ W.getD (t - 16) 0) 1
def wl (bl : List Nat) : Nat → List Nat
 | 0 => []
 | t + 1 => (fun W => W ++ [wnext bl W t]) (wl bl t)
end Go.Proofs.YtafhnlnhflehhaaDoor
