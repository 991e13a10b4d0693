import Derived.Test.YtopglieihhgaaaaXBbtGrowC
namespace Go.Proofs.Ytopglieihhgaaaa.Pure
theorem BbtGrows : Go.Proofs.Ytopglieihhgaaaa.P.tillrolllaw09_BbtGrows.Pure := Go.Proofs.Ytopglieihhgaaaa.bbtGrows_pure
end Go.Proofs.Ytopglieihhgaaaa.Pure
