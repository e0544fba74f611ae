import Derived.Test.YtcegihniiokijaaGEncCToAbsZB
import Derived.Test.YtcegihniiokijaaAbsZE

namespace RC
open Go Go.Abs
structure RRoutine where
 params : List Int
 lent : List Int
 result : Int
 body : Block
noncomputable def eRRoutine (r : RRoutine) : List AV := [.sl (r.params.map eI), .sl (r.lent.map eI), .int .i64 r.result, .sl (r.body.steps.map eStep), .int .i64 r.body.result]
structure RNormal where
 decls : List RDecl
 routines : List RRoutine
noncomputable def eRNormal (p : RNormal) : List AV := [.sl (p.decls.map eRDecl), .sl (p.routines.map eRRoutine)]
end RC

