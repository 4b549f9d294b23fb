import Derived.Test.YteagjoghhfngoaaGreatDoorQl
set_option maxRecDepth 100000
set_option maxHeartbeats 32000000
set_option linter.all false
namespace Go.Proofs.YteagjoghhfngoaaGreatDoor
open Go.RowKit Tryz Value List
def nr (m:Mr):m.cells= #[slice m.FA m.Fn m.Fc,m.ck,slice m.SA m.Sn m.Sc,slice m.LA m.Ln m.Lc,slice m.TA m.Tn m.Tc,m.sk,m.cS,slice m.NA m.Nn m.Nc,m.dr,m.lo,slice m.DA m.Dn m.Dc,slice m.OA m.On m.Oc,slice m.da.A m.da.n m.da.c,slice m.db.A m.db.n m.db.c]:=rfl
end Go.Proofs.YteagjoghhfngoaaGreatDoor
