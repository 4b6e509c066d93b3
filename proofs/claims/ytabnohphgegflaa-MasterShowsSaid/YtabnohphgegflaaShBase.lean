/-
  What the texts of shapes rest on.
-/
import Derived.Test.YtabnohphgegflaaProg
import Derived.Test.YtabnohphgegflaaShPlain
import Derived.Test.YtabnohphgegflaaOwn
import Derived.Test.YtabnohphgegflaaBlk
import Derived.WalkLawsBesides
import Derived.Lib.Hide
import Derived.BigQuiet
import Derived.StillTailTactics
import Derived.Laws.Rows
