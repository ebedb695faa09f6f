/- The statement ParserConcatenation of the given program holds, for every input. No condition is added. -/
import Derived.Test.YtonhcfecfifghaaDoorCoreA
import Derived.Test.YtonhcfecfifghaaDoorCoreB
import Derived.Test.YtonhcfecfifghaaDoorCoreC
import Derived.Test.YtonhcfecfifghaaDoorCoreD
import Derived.Test.YtonhcfecfifghaaDoorParserConcatenationMA
import Derived.Test.YtonhcfecfifghaaDoorRows
import Derived.Test.YtonhcfecfifghaaDoorCards
import Derived.Test.YtonhcfecfifghaaDoorTie
namespace Go.Proofs.YtonhcfecfifghaaDoor
theorem parserConcatenation_holds : Rows.ParserConcatenationCardSaid := parserConcatenation.card
#print axioms parserConcatenation_holds
end Go.Proofs.YtonhcfecfifghaaDoor
