import Derived.Test.YtkoelgkghijgiaaGreatA17
set_option linter.unusedVariables false
set_option linter.unusedSimpArgs false
namespace Go.Proofs.YtkoelgkghijgiaaGreat
open Go Go.Sep Go.Proofs
set_option maxRecDepth 10000
@[reducible] def OpB (pb:Nat) (p:LOp):Blk:=(pb,cl p.row 40)
@[reducible] def CfB (cb:Nat) (c:Cf):Blk:=(cb,cl c.row 23)
end Go.Proofs.YtkoelgkghijgiaaGreat
