/- The statement ParserIgnoresBlanks of the given program holds, for every input. No condition is added. -/
import Derived.Test.YtonhcfecfifghaaDoorCoreA
import Derived.Test.YtonhcfecfifghaaDoorCoreB
import Derived.Test.YtonhcfecfifghaaDoorCoreC
import Derived.Test.YtonhcfecfifghaaDoorCoreD
import Derived.Test.YtonhcfecfifghaaDoorParserIgnoresBlanksMA
import Derived.Test.YtonhcfecfifghaaDoorRows
import Derived.Test.YtonhcfecfifghaaDoorCards
import Derived.Test.YtonhcfecfifghaaDoorTie
namespace Go.Proofs.YtonhcfecfifghaaDoor
theorem parserIgnoresBlanks_holds : Rows.ParserIgnoresBlanksCardSaid := parserIgnoresBlanks.card PPx.ib_pure
#print axioms parserIgnoresBlanks_holds
end Go.Proofs.YtonhcfecfifghaaDoor
