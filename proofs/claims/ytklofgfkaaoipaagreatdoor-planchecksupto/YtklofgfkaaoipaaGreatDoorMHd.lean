/- A short name for the kit's way to put a fact out of sight. -/
import Derived.Lib.Hide
namespace Go.Proofs.YtklofgfkaaoipaaGreatDoor
theorem Z {p : Prop} (h : p) : RowKit.Hid p := Lib.hid h
end Go.Proofs.YtklofgfkaaoipaaGreatDoor
