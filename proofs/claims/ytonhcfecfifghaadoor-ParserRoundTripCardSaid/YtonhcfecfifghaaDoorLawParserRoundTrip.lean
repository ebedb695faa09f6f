/- The statement ParserRoundTrip of the given program holds, for every input. No condition is added. -/
import Derived.Test.YtonhcfecfifghaaDoorCoreA
import Derived.Test.YtonhcfecfifghaaDoorCoreB
import Derived.Test.YtonhcfecfifghaaDoorCoreC
import Derived.Test.YtonhcfecfifghaaDoorCoreD
import Derived.Test.YtonhcfecfifghaaDoorParserRoundTripMA
import Derived.Test.YtonhcfecfifghaaDoorRows
import Derived.Test.YtonhcfecfifghaaDoorCards
import Derived.Test.YtonhcfecfifghaaDoorTie
namespace Go.Proofs.YtonhcfecfifghaaDoor
theorem parserRoundTrip_holds : Rows.ParserRoundTripCardSaid := parserRoundTrip.card PPx.rt_pure
#print axioms parserRoundTrip_holds
end Go.Proofs.YtonhcfecfifghaaDoor
