import Derived.Test.YtopglieihhgaaaaXBbtBack
namespace Go.Proofs.Ytopglieihhgaaaa.Pure
theorem BbtBack : Go.Proofs.Ytopglieihhgaaaa.P.tillrolllaw09_BbtBack.Pure := Go.Proofs.Ytopglieihhgaaaa.bbtBack_pure
end Go.Proofs.Ytopglieihhgaaaa.Pure
