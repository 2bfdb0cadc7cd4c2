/- This session's texts for the claim, joined and shortened by this session's own program pack.py: what the claim does not need is struck. Part: GIem. -/
import Derived.Test.YtkdfilpinlebbaaDoorProg
namespace Go.Proofs.YtkdfilpinlebbaaDoor.G
theorem iem (l : List UInt8) : l.isEmpty = !(l != ([] : List UInt8)) := by cases l <;> rfl
end Go.Proofs.YtkdfilpinlebbaaDoor.G
