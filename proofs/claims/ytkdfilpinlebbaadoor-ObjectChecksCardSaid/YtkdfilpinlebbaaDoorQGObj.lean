/- This session's texts for the claim, joined and shortened by this session's own program pack.py: what the claim does not need is struck. Part: GObj. -/
import Derived.Test.YtkdfilpinlebbaaDoorQGStr
import Derived.Test.YtkdfilpinlebbaaDoorQGGuess
import Derived.Test.YtkdfilpinlebbaaDoorQGEnc
import Derived.Test.YtkdfilpinlebbaaDoorQGIem
