/- Requests and steps as data, and what the functions on them say. Conditions: none. -/
import Derived.Test.YtciojlggdnmncaaTy
set_option maxRecDepth 100000
namespace Go.Proofs.Ytciojlggdnmncaa.Ab
open Go 

/-- Requests and steps, as data. -/
structure Req where
  id : Int
  work : Int
  lib : List UInt8
  st : Int
  tm : Int
  lender : List UInt8
  tried : List (List UInt8)
  due : Int
  ren : Int
def Req.e (r : Req) : D := .agg [.int .i64 r.id, .int .i64 r.work, .str r.lib, .int .i64 r.st, .int .i64 r.tm, .str r.lender, .sl (r.tried.map .str), .int .i64 r.due, .int .i64 r.ren]
structure Stp where
  kind : Int
  tm : Int
  lender : List UInt8
  due : Int
def Stp.e (s : Stp) : D := .agg [.int .i64 s.kind, .int .i64 s.tm, .str s.lender, .int .i64 s.due]
structure Req.Fits (r : Req) : Prop where
  lib : r.lib.length ≤ 9223372036854775807
  lender : r.lender.length ≤ 9223372036854775807
  tried : r.tried.length ≤ 9223372036854775807
  each : ∀ k, (r.tried.getD k []).length ≤ 9223372036854775807

def letterI (n : Int) : Bool := decide (97 ≤ n) && decide (n ≤ 122)
def oddI (n : Int) : Bool := !letterI n && (decide (n < 48) || decide (57 < n)) && !decide (n = 45)
def nameB (s : List UInt8) : Bool := !decide (s = []) && decide ((s.length : Int) ≤ 40) && letterI (s.getD 0 0).toNat && !(s.any fun x => oddI x.toNat)
theorem nameB_eq (s : List UInt8) : nameB s = (!decide (s = []) && decide ((s.length : Int) ≤ 40) && letterI (s.getD 0 0).toNat && !(s.any fun x => oddI x.toNat)) := rfl
theorem nameB_pos {s : List UInt8} {b : Bool} (h : (!decide (s = []) && b) = true) : 0 < s.length := by
  cases s with
  | nil => simp at h
  | cons a l => simp
def inI (n lo hi : Int) : Bool := decide (lo ≤ n) && decide (n ≤ hi)
def hasS (l : List (List UInt8)) (v : List UInt8) : Bool := l.any fun x => decide (v = x)
def hasI (l : List Int) (v : Int) : Bool := l.any fun x => decide (v = x)
def triedAt (l : List (List UInt8)) (lib : List UInt8) (k : Nat) : Bool := (!nameB (l.getD k []) || decide (l.getD k [] = lib)) || hasS (l.take k) (l.getD k [])
def triedB (l : List (List UInt8)) (lib : List UInt8) : Bool := ((List.range l.length).all fun k => !triedAt l lib k) && decide ((l.length : Int) ≤ 20)
theorem triedB_no {l : List (List UInt8)} {lib : List UInt8} {k : Nat} (hk : k < l.length) (h : triedAt l lib k = true) : triedB l lib = false := by
  have : ((List.range l.length).all fun k => !triedAt l lib k) = false := by
    rw [List.all_eq_false]; exact ⟨k, List.mem_range.2 hk, by simp [h]⟩
  simp [triedB, this]
theorem triedB_yes {l : List (List UInt8)} {lib : List UInt8} (h : ∀ j, j < l.length → triedAt l lib j = false) : triedB l lib = decide ((l.length : Int) ≤ 20) := by
  have : ((List.range l.length).all fun k => !triedAt l lib k) = true := by
    rw [List.all_eq_true]; intro j hj; simp [h j (List.mem_range.1 hj)]
  simp [triedB, this]
def validB (r : Req) : Bool :=
  if (((((!inI r.id 1 1000000000 || !inI r.work 1 1000000000) || !nameB r.lib) || !inI r.st 1 9) || !inI r.tm 0 1000000) || !triedB r.tried r.lib) = true then false else
  if (if inI r.st 2 7 = true then ((!nameB r.lender || decide (r.lender = r.lib)) || hasS r.tried r.lender) else !decide (r.lender = [])) = true then false else
  if (!inI r.st 4 7) = true then (decide (r.due = 0) && decide (r.ren = 0)) else
  if ((decide (r.st = 4) || decide (r.st = 5)) && decide (r.due < r.tm)) = true then false else (inI r.due 1 1000000 && inI r.ren 0 2)
def zeroReq : Req := ⟨0, 0, [], 0, 0, [], [], 0, 0⟩
def newR (id work : Int) (lib : List UInt8) (tm : Int) : Req × Int :=
  if (!inI id 1 1000000000 || !inI work 1 1000000000) = true then (zeroReq, 2) else
  if (!nameB lib) = true then (zeroReq, 8) else
  if (!inI tm 0 1000000) = true then (zeroReq, 25) else (⟨id, work, lib, 1, tm, [], [], 0, 0⟩, 0)
def kindsL (n : Int) : List Int := if n = 1 then [1, 9, 10] else if n = 2 then [2, 3, 9] else if n = 3 then [4] else if n = 4 then [5, 6, 7] else if n = 5 then [7] else if n = 6 then [8] else []
def refusedI (r : Req) (s : Stp) : Int :=
  if decide (s.kind = 1) = true then
    (if (!nameB s.lender || decide (s.lender = r.lib)) = true then 8 else if hasS r.tried s.lender = true then 24 else 0)
  else if decide (s.kind = 2) = true then (if decide ((r.tried.length : Int) = 20) = true then 3 else 0)
  else if (if decide (s.kind = 5) = true then true else decide (s.kind = 4)) = true then
    (if (decide (s.kind = 5) && decide (r.ren = 2)) = true then 3
     else if ((decide (s.due ≤ s.tm) || decide (1000000 < s.due)) || (decide (s.kind = 5) && decide (s.due ≤ r.due))) = true then 25 else 0)
  else if decide (s.kind = 6) = true then (if decide (r.due < s.tm) = true then 25 else 0) else 0

end Go.Proofs.Ytciojlggdnmncaa.Ab
