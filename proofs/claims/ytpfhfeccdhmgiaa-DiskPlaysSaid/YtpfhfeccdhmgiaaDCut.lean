/- What is proved here: lemmas and contracts on the way to this seat's laws, part 'DCut'; no condition. -/
import Derived.Test.YtpfhfeccdhmgiaaDLaw0
import Derived.Deep.QuietTactic
import Derived.BigQuiet
/- The law of disks: its walk, in parts: the pieces of its code. -/
namespace Go.Proofs.Ytpfhfeccdhmgiaa
open Go.RowKit

/-- The piece of a code that bears this mark. -/
def findBlock (n : Nat) : Code → Option Code
  | .block m c => if m = n then some (.block m c) else findBlock n c
  | .seq a b => match findBlock n a with
    | some c => some c
    | none => findBlock n b
  | .cond _ a b => match findBlock n a with
    | some c => some c
    | none => findBlock n b
  | .loop c => findBlock n c
  | .scope c => findBlock n c
  | _ => none

/-- Does a code end with it? -/
def endsIn (n : Nat) : Code → Bool
  | .block m _ => m == n
  | .seq _ b => endsIn n b
  | .scope c => endsIn n c
  | _ => false

/-- What stands behind it. -/
def afterBlock (n : Nat) : Code → Option Code
  | .seq a b => if endsIn n a then some b else match afterBlock n a with
    | some c => some c
    | none => afterBlock n b
  | .block _ c => afterBlock n c
  | .cond _ a b => match afterBlock n a with
    | some c => some c
    | none => afterBlock n b
  | .loop c => afterBlock n c
  | .scope c => afterBlock n c
  | _ => none

noncomputable def swC : Code := (Try.f3.body.bind (findBlock 4)).getD .skip
noncomputable def tailC : Code := (Try.f3.body.bind (afterBlock 4)).getD .skip

end Go.Proofs.Ytpfhfeccdhmgiaa
