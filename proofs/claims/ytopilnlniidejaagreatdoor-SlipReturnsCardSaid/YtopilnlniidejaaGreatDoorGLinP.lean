/- Plain mathematics of directions: the downward form, dot and cross products, classes. No program in sight. -/
/- Plain mathematics of directions: the downward form of a positive multiple of an integer vector. No program in sight. -/
namespace Go.Proofs.YtopilnlniidejaaGreatDoor
set_option linter.all false
structure V3 where
 x : Rat
 y : Rat
 z : Rat

def V3.scale (v : V3) (k : Rat) : V3 := ⟨v.x * k, v.y * k, v.z * k⟩
structure I3 where
 x : Int
 y : Int
 z : Int
def I3.nz (v : I3) : Prop := ¬ (v.x = 0 ∧ v.y = 0 ∧ v.z = 0)

end Go.Proofs.YtopilnlniidejaaGreatDoor

/- Plain mathematics of directions: sums of products, cross products, multiples. No program in sight. -/
namespace Go.Proofs.YtopilnlniidejaaGreatDoor
def dotI (a b : I3) : Int := a.x * b.x + a.y * b.y + a.z * b.z
def crossI (a b : I3) : I3 := ⟨a.y * b.z - a.z * b.y, a.z * b.x - a.x * b.z, a.x * b.y - a.y * b.x⟩
def dotR (u v : V3) : Rat := u.x * v.x + u.y * v.y + u.z * v.z
def crossR (u v : V3) : V3 := ⟨u.y * v.z - u.z * v.y, u.z * v.x - u.x * v.z, u.x * v.y - u.y * v.x⟩
def V3.zero (v : V3) : Prop := v.x = 0 ∧ v.y = 0 ∧ v.z = 0
def ofI (v : I3) (d : Nat) : V3 := ⟨mkRat v.x d, mkRat v.y d, mkRat v.z d⟩
def I3.neg (v : I3) : I3 := ⟨-v.x, -v.y, -v.z⟩

end Go.Proofs.YtopilnlniidejaaGreatDoor
