/- The statement ParserRecoversFromErrors of the given program holds, for every input. No condition is added. -/
import Derived.Test.YtonhcfecfifghaaDoorCoreA
import Derived.Test.YtonhcfecfifghaaDoorCoreB
import Derived.Test.YtonhcfecfifghaaDoorCoreC
import Derived.Test.YtonhcfecfifghaaDoorCoreD
import Derived.Test.YtonhcfecfifghaaDoorParserRecoversFromErrorsMA
import Derived.Test.YtonhcfecfifghaaDoorRows
import Derived.Test.YtonhcfecfifghaaDoorCards
import Derived.Test.YtonhcfecfifghaaDoorTie
namespace Go.Proofs.YtonhcfecfifghaaDoor
theorem parserRecoversFromErrors_holds : Rows.ParserRecoversFromErrorsCardSaid := parserRecoversFromErrors.card
#print axioms parserRecoversFromErrors_holds
end Go.Proofs.YtonhcfecfifghaaDoor
