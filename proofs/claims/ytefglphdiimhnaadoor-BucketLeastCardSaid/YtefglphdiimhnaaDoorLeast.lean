/-
  PROVED HERE: BucketLeast: a change of weights moves exactly as many buckets as the weights demand, and what does not lose weight keeps all its buckets: the law returns true at every input.
  Conditions: the card's own: the package-level variable 'halves' holds what the program's text lays there; what the arguments reach is of a size that a machine can hold.
-/
import Derived.Test.YtefglphdiimhnaaDoorCardLeast
import Derived.Test.YtefglphdiimhnaaDoorPF
namespace Go.Proofs.YtefglphdiimhnaaDoor
theorem bucketLeast_holds : Rows.BucketLeastCardSaid := bucketLeast_card Plain.BucketLeast
#print axioms bucketLeast_holds
end Go.Proofs.YtefglphdiimhnaaDoor
