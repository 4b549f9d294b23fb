/- Snapshots disturb nothing: Rows.TopSnapsCardSaid holds of the given program, for every input that the row admits; no further condition. -/
import Derived.Test.YteagjoghhfngoaaGreatDoorUa
import Derived.Test.YteagjoghhfngoaaGreatDoorQp
set_option maxRecDepth 100000
set_option maxHeartbeats 32000000
set_option linter.all false
namespace Go.Proofs.YteagjoghhfngoaaGreatDoor
open Go.RowKit Go.Proofs.Tryz Value List
section
open Go.ChangeShapes Go.WideShapes Go.ChangeAt Go.ChangeMaps
theorem Ub (os:Os) (x:os.Started) (H:Type) (enc:TypeId×Value->H):
 ReturnsInHanded {} Tryz.checked os 5 .any (λw args=>(Rows.topSnapsSpec.pre enc Tryz.prog Tryz.f5 [] false w args/\laidMetH Tryz.prog jS w)/\sizedMet enc Tryz.prog Tryz.f5 (OpenSpec.ofChange Rows.topSnapsSpec) false w args) (Rows.topSnapsSpec.post enc Tryz.prog Tryz.f5 false true false false):=by
 refine returnsInHanded_of_change_and (C:=Tryz.checked) (X:=λw _=>laidMetH Tryz.prog jS w) (λ_ _ _ n a=>a.of_heap n) CR x (by kernel_rfl) Tryz.func5 (ChangeSpec.witness_shaped (enc:=enc) (C:=Tryz.checked) (os:=os) (X:=λw _=>laidMetH Tryz.prog jS w) false (World.laidAll Tryz.prog os jS) #[.slice none 0 0] 8 (World.laidAll_os _ _ _) (World.shaped_of_ZipB (by kernel_rfl) (by kernel_rfl)) (by kernel_rfl) (by kernel_rfl) (by kernel_rfl) (Ck os _)) ?_;intro W base args ds gs F l d _ A c _;have hG:=AM c;clear c;have h: ∀ (j:Nat) t v,Tryz.f5.params[j]?=some t->args[j]?=some v->Value.okWide Tryz.prog W .any base t v:=l;have g:=d;obtain⟨p,q,u,y,rfl,_,_⟩:=d;have f:DataW.TrodAll enc Tryz.prog W 0 (λ_=>true) true Tryz.f5.params.toList args.toList ds p:=u;rw[Tryz.params5]at f h;obtain⟨b,I,G,E,z,D,B,rfl,rfl,k,o⟩:=trodAll_cons f;obtain⟨rfl,rfl,rfl⟩:=trodAll_nil o;obtain rfl:args= #[b]:=by cases args;simp_all
 obtain⟨rfl,rfl⟩:=trodVars_none y;obtain⟨s,m,r,xs,rfl,i⟩:=BV (h 0 _ b rfl rfl) k;refine(XD s m r xs W i hG).mono λe W' a=>?_;exact Qt
theorem Xs:Tryz.prog.inPlace 5=Rows.topSnapsRow.inPlace:=by kernel_rfl
theorem WA:Tryz.prog.unfollowed 5=Rows.topSnapsRow.unfollowed:=by kernel_rfl
theorem Xt:Tryz.prog.recurses 5=Rows.topSnapsRow.recurses:=by kernel_rfl
theorem Xw:Tryz.prog.varsNamed 5=Rows.topSnapsRow.named:=by kernel_rfl
theorem WX:mapsRowed Tryz.prog=true:=by kernel_rfl
theorem Ud:joinedFacts Tryz.prog 5 Tryz.f5 Rows.topSnapsSpec Rows.topSnapsRow=true:=by unfold joinedFacts;rw[Xs,WA,Xt,Xw,tT,WX];kernel_rfl
theorem FT:Tryz.prog.funcNamed "watchtower/watchtowertop.TopSnaps" =some 5:=by kernel_rfl
theorem Vr:Rows.TopSnapsSaid:=
 OpenClaim.holds_of_wide (p:=Tryz.pinned) 5 Tryz.f5 rfl rfl rfl rfl rfl rfl rfl ⟨rfl,rfl,rfl,rfl,rfl⟩ rfl rfl rfl rfl rfl FT Tryz.func5 Ud
  (of_decide_eq_true (by kernel_rfl)) (by unfold Func.isWrapper;first|(rw[if_pos (by decide+kernel)];kernel_rfl)|(rw[if_neg (by decide+kernel)];exact⟨rfl,rfl⟩))
  (λos a H enc _=>Ub os a H enc)
theorem Xn:Rows.topSnapsRow.wfByText (OpenSpec.ofChange Rows.topSnapsSpec)=true:=by kernel_rfl
theorem UG:Tryz.pinned.checked.prog.mainIs=some ((true, "88225edda99f1ff35034eb8379b4ed4452bf49e21db2c3d0cf6f1a5170050cd0").1,(true, "88225edda99f1ff35034eb8379b4ed4452bf49e21db2c3d0cf6f1a5170050cd0").2.toList):=by kernel_rfl
theorem Ut:true=Tryz.prog.looks []:=by kernel_rfl
theorem UI:false=Rows.topSnapsRow.goesBy Tryz.pinned.checked.prog:=by kernel_rfl
theorem topSnaps_holds:Rows.TopSnapsCardSaid:=
 Claim7.holds_tied_plain_at .later [] [.data,.data,.data,.data,.data,.data,.data,.pinned] true (true, "88225edda99f1ff35034eb8379b4ed4452bf49e21db2c3d0cf6f1a5170050cd0") true
  Vr (λ_ b=>by cases b) Xn (λ_ b=>by cases b) topSnaps_row_tie rfl ⟨rfl,rfl⟩ UG rfl
  (λf e d c=>by
   obtain rfl:f=5:=Option.some.inj (FT.symm.trans d)|>.symm
   obtain rfl:e=Tryz.f5:=(Option.some.inj (Tryz.func5.symm.trans c)).symm
   exact⟨Ut,λj t a=>by
    rw[Tryz.params5]at a
    exact Ox⟩)
  UI
end
end Go.Proofs.YteagjoghhfngoaaGreatDoor
