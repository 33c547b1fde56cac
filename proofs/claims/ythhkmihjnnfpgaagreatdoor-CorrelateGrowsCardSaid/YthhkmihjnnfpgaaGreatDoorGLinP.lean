/- Plain mathematics of directions: the downward form, dot and cross products, classes. No program in sight. -/
/- Plain mathematics of directions: the downward form of a positive multiple of an integer vector. No program in sight. -/
namespace Go.Proofs.YthhkmihjnnfpgaaGreatDoor
set_option linter.all false
structure V3 where
 x:Rat
 y:Rat
 z:Rat

def gcd3 (a b c:Int):Nat:=Nat.gcd (Nat.gcd a.natAbs b.natAbs) c.natAbs
def upI (X Y Z:Int):Bool:=if Z=0 then (if Y=0 then decide (X < 0) else decide (Y < 0)) else decide (0 < Z)
def turnI (b:Bool) (g:Int):Int:=if b then -g else g
structure I3 where
 x:Int
 y:Int
 z:Int
def I3.g (v:I3):Int:=turnI (upI v.x v.y v.z) (gcd3 v.x v.y v.z)

end Go.Proofs.YthhkmihjnnfpgaaGreatDoor

/- Plain mathematics of directions: sums of products, cross products, multiples. No program in sight. -/
namespace Go.Proofs.YthhkmihjnnfpgaaGreatDoor
def V3.zero (v:V3):Prop:=v.x=0∧v.y=0∧v.z=0
def ofI (v:I3) (d:Nat):V3:=⟨mkRat v.x d,mkRat v.y d,mkRat v.z d⟩

end Go.Proofs.YthhkmihjnnfpgaaGreatDoor
