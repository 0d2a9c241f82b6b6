/-
  scan.Frames' iterator, as dec.py's texts ask for it.
-/
import Derived.Test.YtajphaljpkeecaaDoorWSFr
import Derived.Test.YtajphaljpkeecaaDoorWGC13a
set_option linter.unusedVariables false
set_option maxRecDepth 100000
noncomputable section
namespace Go.Proofs
open Go Go.Fx
def it_frames (nil ex : Bool) (l : List Int) : Option (List FrIt) :=
  if l.length ≤ 1000000000 then framesGo (fun l => go_scan_Size false ex l) (fun l => go_frame_Decode false true l) l (l.length + 1) 0 else none
theorem sq_frames (nil ex : Bool) (l : List Int) (is : List FrIt) (h : it_frames nil ex l = some is) : SeqEq Tryd.prog GG 64 [.ref 0 [.isl nil ex .u8 l]] (is.map ie_frames) := by
  unfold it_frames at h
  split at h
  · rename_i hl
    exact frames_in nil ex l (fun l n h => ok_scan_Size false ex l n h) (fun l r h => ok_frame_Decode false true l r h) is hl h
  · cases h
end Go.Proofs
