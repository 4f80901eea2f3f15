/- The walk of the document's Right. -/
import Derived.Test.YtiemlnomlfebkaaDotList
namespace Go.Proofs.Ytiemlnomlfebkaa
open Go.RowKit
open Dot
end Go.Proofs.Ytiemlnomlfebkaa
