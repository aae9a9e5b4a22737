/- The text of a right list of noads: plain. No program's code. -/
import Derived.Test.YtaoepeiadhdbaaaDoorShRune
import Derived.Lib.ItoaNum
namespace Go.Proofs.YtaoepeiadhdbaaaDoor.ND
open Go.Proofs.YtaoepeiadhdbaaaDoor.P
set_option linter.unusedVariables false
def quoteL (c : Int) : List UInt8 := (quoteS c).1.data.toList
def delimL (c : Int) : List UInt8 := quoteL (if c = 0 then 46 else c)
def bracesL {α : Type} (f : List α → List UInt8) : List (List α) → List UInt8
  | [] => []
  | p :: ps => 123 :: (f p ++ 125 :: bracesL f ps)
def fenceL {α : Type} (f : List α → List UInt8) : List (List α) → List Int → Bool → List UInt8
  | [], rs, _ => [92, 114, 105, 103, 104, 116, 32] ++ delimL (rs.headD 0)
  | p :: ps, rs, first => (if first then [92, 108, 101, 102, 116, 32] else [92, 109, 105, 100, 100, 108, 101, 32]) ++ (delimL (rs.headD 0) ++ (f p ++ fenceL f ps rs.tail false))
def matrixL {α : Type} (f : List α → List UInt8) (n : Int) : List (List α) → Nat → List UInt8
  | [], _ => [125]
  | p :: ps, i => (if i = 0 then [] else if (i : Int) % n = 0 then [92, 92] else [38]) ++ (f p ++ matrixL f n ps (i + 1))
def clsW (c : Int) : List UInt8 :=
  if c = 1 then [109, 97, 116, 104, 111, 112] else if c = 2 then [109, 97, 116, 104, 98, 105, 110] else if c = 3 then [109, 97, 116, 104, 114, 101, 108] else if c = 4 then [109, 97, 116, 104, 111, 112, 101, 110]
  else if c = 5 then [109, 97, 116, 104, 99, 108, 111, 115, 101] else if c = 6 then [109, 97, 116, 104, 112, 117, 110, 99, 116] else if c = 7 then [109, 97, 116, 104, 105, 110, 110, 101, 114] else []
def styW (n : Int) : List UInt8 :=
  if n = 0 then [100, 105, 115, 112, 108, 97, 121, 115, 116, 121, 108, 101, 32] else if n = 1 then [116, 101, 120, 116, 115, 116, 121, 108, 101, 32] else if n = 2 then [115, 99, 114, 105, 112, 116, 115, 116, 121, 108, 101, 32]
  else [115, 99, 114, 105, 112, 116, 115, 99, 114, 105, 112, 116, 115, 116, 121, 108, 101, 32]
def kernL (n : Int) : List UInt8 := [92, 107, 101, 114, 110, 123] ++ (Lib.itoa n ++ [125])
def nucL {α : Type} (f : List α → List UInt8) (x : Nz α) : List UInt8 :=
  if x.kind = 0 then quoteL x.rune
  else if x.kind = 1 then (if x.cls = 0 then [] else 92 :: clsW x.cls) ++ bracesL f x.parts
  else if x.kind = 2 then (92 :: (if x.n = 0 then [97, 116, 111, 112] else [102, 114, 97, 99])) ++ bracesL f x.parts
  else if x.kind = 3 then (92 :: (if x.parts.length = 1 then [115, 113, 114, 116] else [114, 111, 111, 116])) ++ (bracesL f (x.parts.drop 1) ++ bracesL f (x.parts.take 1))
  else if x.kind = 6 then [92, 97, 99, 99, 101, 110, 116, 123] ++ (quoteL x.rune ++ ([125] ++ bracesL f x.parts))
  else if x.kind = 7 then fenceL f x.parts x.runes true
  else if x.kind = 8 then [92, 109, 97, 116, 114, 105, 120, 123] ++ matrixL f x.n x.parts 0
  else if x.kind = 10 then 92 :: styW x.n
  else if x.kind = 11 then kernL x.n
  else (92 :: (if x.kind = 4 then [111, 118, 101, 114, 108, 105, 110, 101] else if x.kind = 5 then [117, 110, 100, 101, 114, 108, 105, 110, 101] else [118, 99, 101, 110, 116, 101, 114])) ++ bracesL f x.parts
def limW (n : Int) : List UInt8 := if n = 1 then [92, 108, 105, 109, 105, 116, 115, 32] else if n = 2 then [92, 110, 111, 108, 105, 109, 105, 116, 115, 32] else []
def itemL {α : Type} (f : List α → List UInt8) (x : Nz α) : List UInt8 :=
  limW x.lim ++ (nucL f x ++ ((if x.hs then 94 :: bracesL f [x.sup] else []) ++ (if x.hb then 95 :: bracesL f [x.sub] else [])))
def lstL {α : Type} (f : List α → List UInt8) : List (Nz α) → List UInt8
  | [] => []
  | x :: l => itemL f x ++ lstL f l
def stx : (k : Nat) → List (Nn k) → List UInt8
  | 0 => fun _ => []
  | k + 1 => lstL (stx k)
theorem lstL_append {α : Type} (f : List α → List UInt8) : ∀ l m : List (Nz α), lstL f (l ++ m) = lstL f l ++ lstL f m
  | [], m => rfl
  | x :: l, m => by rw [List.cons_append, lstL, lstL, lstL_append f l m, List.append_assoc]
theorem bracesL_append {α : Type} (f : List α → List UInt8) : ∀ l m : List (List α), bracesL f (l ++ m) = bracesL f l ++ bracesL f m
  | [], m => rfl
  | x :: l, m => by rw [List.cons_append, bracesL, bracesL, bracesL_append f l m]; simp
end Go.Proofs.YtaoepeiadhdbaaaDoor.ND
