/-
  What the texts of shapes rest on.
-/
import Derived.Test.YtabnohphgegflaaDoorProg
import Derived.Test.YtabnohphgegflaaDoorShPlain
import Derived.Test.YtabnohphgegflaaDoorOwn
import Derived.Test.YtabnohphgegflaaDoorBlk
import Derived.WalkLawsBesides
import Derived.Lib.Hide
import Derived.BigQuiet
import Derived.StillTailTactics
import Derived.Laws.Rows
