/- The law MachineReach as a contract over what is handed over. -/
import Derived.Test.YteolbecihipcaaaM12
open Go Go.Proofs Go.RowKit
namespace Go.Proofs.Yteolbecihipcaaa.Sx.M5
set_option linter.unusedVariables false
set_option linter.unusedSimpArgs false
theorem lReaL_true (p : Img) (inp : List Int) (target steps more : Int) (b0 : ImgOk p) (b1 : Bytes inp) : Ok Try.prog 3 [.agg [.v (.int .i64 p.mem), .v (.int .i64 p.stack), .v (.int .i64 p.input), .ro 1 p.data.length ((p.data).map eb), .ro 1 p.funs.length ((p.funs).map ei), .ro 5 p.code.length ((p.code).map eIns)], .ro 1 inp.length ((inp).map eb), .v (.int .i64 target), .v (.int .i64 steps), .v (.int .i64 more)] (look []) (.v (.bool true)) (postOf [] []) :=
  lRea_law p inp target steps more (imm_of b0)
end Go.Proofs.Yteolbecihipcaaa.Sx.M5
