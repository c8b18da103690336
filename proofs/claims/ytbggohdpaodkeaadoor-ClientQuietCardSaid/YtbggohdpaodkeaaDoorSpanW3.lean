/- The walks of spans: Cut, Join, Meet, and the document's. -/
import Derived.Test.YtbggohdpaodkeaaDoorSpanW2
import Derived.Deep.DrawnRows
namespace Go.Proofs.YtbggohdpaodkeaaDoor
open Go.RowKit
attribute [local go_sem] ByteArray.mk_append_mk ByteArray.extract_mk
theorem str_ne {a b : List UInt8} (h : ¬ a = b) : (a == b) = false := beq_eq_false_iff_ne.2 h
end Go.Proofs.YtbggohdpaodkeaaDoor
