/- The statement ParserFormatIsCanonical of the given program holds, for every input. No condition is added. -/
import Derived.Test.YtonhcfecfifghaaDoorParserFormatIsCanonicalM1
import Derived.Test.YtonhcfecfifghaaDoorParserFormatIsCanonicalM2
import Derived.Test.YtonhcfecfifghaaDoorParserFormatIsCanonicalM3
import Derived.Test.YtonhcfecfifghaaDoorParserFormatIsCanonicalM4
import Derived.Test.YtonhcfecfifghaaDoorRows
import Derived.Test.YtonhcfecfifghaaDoorCards
import Derived.Test.YtonhcfecfifghaaDoorTie
namespace Go.Proofs.YtonhcfecfifghaaDoor
theorem parserFormatIsCanonical_holds : Rows.ParserFormatIsCanonicalCardSaid := parserFormatIsCanonical.card PPx.fc_pure
#print axioms parserFormatIsCanonical_holds
end Go.Proofs.YtonhcfecfifghaaDoor
