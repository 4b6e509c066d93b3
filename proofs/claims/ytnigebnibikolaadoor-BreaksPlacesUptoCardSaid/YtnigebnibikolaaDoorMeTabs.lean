/-
  The tables of metric, and the reference's ranges.
-/
import Derived.Test.YtnigebnibikolaaDoorLookC
namespace Go.Law.Me
open Go.Law
def marksT : List (List Int) := [[0xad, 0xad, 0], [0x300, 0x36f, 0], [0x591, 0x5bd, 0], [0x5bf, 0x5bf, 0], [0x5c1, 0x5c2, 0], [0x610, 0x61a, 0], [0x64b, 0x65f, 0], [0x200b, 0x200f, 0], [0x202a, 0x202e, 0], [0x2060, 0x2069, 0], [0xfe00, 0xfe0f, 0], [0xfffc, 0xfffc, 0]]
def othersT : List (List Int) := [[9, 10, 0], [48, 57, 500], [0xa0, 0xa0, 250], [0xc0, 0xde, 660], [0xdf, 0x24f, 500], [0x370, 0x52f, 560], [0x590, 0x8ff, 520], [0x1100, 0x115f, 1000], [0x2014, 0x2014, 1000], [0x2010, 0x2013, 500], [0x2e80, 0xa4cf, 1000], [0xac00, 0xd7a3, 1000], [0xf900, 0xfaff, 1000], [0xff00, 0xff60, 1000], [0x20000, 0x3fffd, 1000], [65, 90, 660], [33, 126, 500]]
def one (k : Int) : Int × Int := (k, k)
/-- characters with widths of their own -/
def singleR : List (List (Int × Int) × Int) := [([one 32], 250), ([one 105, one 106, one 108, one 33, one 39, one 44, one 46, one 58, one 59, one 124], 280), ([one 73, one 102, one 114, one 116, one 40, one 41, one 91, one 93, one 45], 330), ([one 109, one 119], 760), ([one 77, one 87], 880)]
def emR : List (List (Int × Int) × Int) := (rngs marksT, 0) :: (singleR ++ (rows3 othersT ++ []))
/-- the width of a character -/
def emC (c : Int) : Int := lookC c emR 600
def markC (c : Int) : Bool := anyR c (rngs marksT)
-- the reference's
def markQ : List (Int × Int) := [one 0xad, (0x300, 0x36f), (0x591, 0x5bd), one 0x5bf, one 0x5c1, one 0x5c2, (0x610, 0x61a), (0x64b, 0x65f), (0x200b, 0x200f), (0x202a, 0x202e), (0x2060, 0x2069), (0xfe00, 0xfe0f), one 0xfffc]
def emQ : List (List (Int × Int) × Int) := [(markQ ++ [one 9, one 10], 0), ([one 32, one 0xa0], 250), ([one 105, one 106, one 108, one 33, one 39, one 44, one 46, one 58, one 59, one 124], 280), ([one 73, one 102, one 114, one 116, one 40, one 41, one 91, one 93, one 45], 330),
  ([one 109, one 119], 760), ([one 77, one 87], 880), ([(65, 90), (0xc0, 0xde)], 660), ([(33, 126), (0xdf, 0x24f), (0x2010, 0x2013)], 500), ([(0x370, 0x52f)], 560), ([(0x590, 0x8ff)], 520), ([(0x1100, 0x115f), one 0x2014, (0x2e80, 0xa4cf), (0xac00, 0xd7a3), (0xf900, 0xfaff), (0xff00, 0xff60), (0x20000, 0x3fffd)], 1000)]
theorem mark_same (c : Int) : anyR c markQ = markC c := anyR_same _ _ 0 (by decide +kernel) (by decide +kernel) c
theorem em_same (c : Int) : lookC c emQ 600 = emC c := lookC_same _ _ 600 0 (by decide +kernel) (by decide +kernel) c
end Go.Law.Me
