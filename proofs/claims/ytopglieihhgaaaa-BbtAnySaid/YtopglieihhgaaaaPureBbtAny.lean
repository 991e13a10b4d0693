import Derived.Test.YtopglieihhgaaaaXBbtAny
namespace Go.Proofs.Ytopglieihhgaaaa.Pure
theorem BbtAny : Go.Proofs.Ytopglieihhgaaaa.P.tillrolllaw09_BbtAny.Pure := Go.Proofs.Ytopglieihhgaaaa.bbtAny_pure
end Go.Proofs.Ytopglieihhgaaaa.Pure
