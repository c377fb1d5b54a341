/- What the functions of the layer entry answer, in plain data. No program here. -/
import Derived.Test.YtjgnckhbafgalaaDoorPteSpec
namespace Go.Proofs.YtjgnckhbafgalaaDoor.EntrySpec
open Go.RowKit Go.Proofs.YtjgnckhbafgalaaDoor.Bv Go.Proofs.YtjgnckhbafgalaaDoor.VaSpec Go.Proofs.YtjgnckhbafgalaaDoor.PteSpec
set_option linter.unusedVariables false
set_option linter.unusedSimpArgs false
structure Ent where
  valid : Bool
  asid : Int
  glob : Bool
  level : Int
  vpn : Int
  ppn : Int
  perm : Perm
  dirty : Bool
deriving DecidableEq
end Go.Proofs.YtjgnckhbafgalaaDoor.EntrySpec
