/- The statement ParserOffsetsIncrease of the given program holds, for every input. No condition is added. -/
import Derived.Test.YtonhcfecfifghaaDoorParserOffsetsIncreasePA
import Derived.Test.YtonhcfecfifghaaDoorParserOffsetsIncreasePB
import Derived.Test.YtonhcfecfifghaaDoorParserOffsetsIncreasePC
import Derived.Test.YtonhcfecfifghaaDoorParserOffsetsIncreasePD
import Derived.Test.YtonhcfecfifghaaDoorParserOffsetsIncreasePE
import Derived.Test.YtonhcfecfifghaaDoorRows
import Derived.Test.YtonhcfecfifghaaDoorCards
import Derived.Test.YtonhcfecfifghaaDoorTie
namespace Go.Proofs.YtonhcfecfifghaaDoor
theorem parserOffsetsIncrease_holds : Rows.ParserOffsetsIncreaseCardSaid := parserOffsetsIncrease.card PPx.off_pure
#print axioms parserOffsetsIncrease_holds
end Go.Proofs.YtonhcfecfifghaaDoor
