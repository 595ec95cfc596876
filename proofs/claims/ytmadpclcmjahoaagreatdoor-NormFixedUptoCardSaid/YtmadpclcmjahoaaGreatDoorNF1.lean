/- Parts of the proof: NF1. -/
import Derived.Test.YtmadpclcmjahoaaGreatDoorCC31
import Derived.Test.YtmadpclcmjahoaaGreatDoorCards
import Derived.Test.YtmadpclcmjahoaaGreatDoorTie
import Derived.ShutString
import Derived.Lib.LaidTab
import Derived.Stop.LaidErr
import Derived.Lay
import Derived.SevenTiedAt
set_option linter.unusedVariables false
set_option linter.unusedSimpArgs false
set_option maxHeartbeats 8000000
set_option maxRecDepth 100000
namespace Go.Proofs.YtmadpclcmjahoaaGreatDoor
open Go.ChangeShapes Go.WideShapes Go.ChangeAt Go.RowKit Go.Redl
theorem d_y (os:Os) {H:Type} (enc:TypeId×Value ->H):∃places,DataW.whole enc Tryz.prog ((World.laidAll Tryz.prog os Rows.normFixedUptoRow.laid).forCall (fun _ _=>0) ⟨#[], #[.agg #[.slice none 0 0, .string ⟨#[]⟩, .int .i64 0, .string ⟨#[]⟩, .int .i64 0, .string ⟨#[]⟩, .slice none 0 0, .int .i64 0, .string ⟨#[]⟩, .int .i64 0, .int .i64 0, .int .i64 0, .int .i64 0, .int .i64 0, .int .i64 0, .int .i64 0], .agg #[.bool false, .slice none 0 0, .slice none 0 0, .slice none 0 0], .slice none 0 0, .slice none 0 0], []⟩).memory Tryz.f6.params.toList Rows.normFixedSpec.vars false (#[.agg #[.slice none 0 0, .string ⟨#[]⟩, .int .i64 0, .string ⟨#[]⟩, .int .i64 0, .string ⟨#[]⟩, .slice none 0 0, .int .i64 0, .string ⟨#[]⟩, .int .i64 0, .int .i64 0, .int .i64 0, .int .i64 0, .int .i64 0, .int .i64 0, .int .i64 0], .agg #[.bool false, .slice none 0 0, .slice none 0 0, .slice none 0 0], .slice none 0 0, .slice none 0 0]:Array Value).toList 8=some ([.agg [.nil, .agg [.lit (.string []), .agg [.lit (.int .i64 0), .lit (.string [])], .agg [.lit (.int .i64 0), .lit (.string [])], .nil, .lit (.int .i64 0), .lit (.string [])], .agg [.lit (.int .i64 0), .lit (.int .i64 0), .lit (.int .i64 0), .lit (.int .i64 0), .lit (.int .i64 0), .lit (.int .i64 0)], .lit (.int .i64 0)], .agg [.lit (.bool false), .nil, .nil, .nil], .nil, .nil], [],places):=
 ⟨[],by kernel_rfl⟩
theorem b_u (H:Type) (enc:TypeId×Value ->H) (W:World) (base:Nat) (args:Array Value) (ds gs:List (DataW H)) (before:List MemPlace)
 (b:∀ (j:Nat) t v,Tryz.f6.params[j]? =some t ->args[j]? =some v ->Value.okWide Tryz.prog W .any base t v)
 (hW:DataW.Whole enc Tryz.prog Tryz.f6.params.toList Rows.normFixedSpec.vars false W args.toList ds gs before) (hk:Rows.uptoSmall H (ds ++ gs)=true) (hL:laidMetH Tryz.prog Rows.normFixedUptoRow.laid W):
 Calls Tryz.prog 6 args W fun e W'=>∃v,e= .returned v/\Rows.normFixedSpec.post enc Tryz.prog Tryz.f6 false true false false W args v W':=by
 have hval:∀ (j:Nat) t v,Tryz.f6.params[j]? =some t ->args[j]? =some v ->Value.okWide Tryz.prog W .any base t v:=b;have d:=hW;obtain⟨p,q,c,hV,rfl,o,r⟩:=hW;have hA:DataW.TrodAll enc Tryz.prog W 0 (fun _=>true) true Tryz.f6.params.toList args.toList ds p:=c;rw [Tryz.params6]at hA hval;obtain⟨v0,vs0,d0,ds0,p0,q0,f,rfl,rfl,h0,r0⟩:=trodAll_cons hA;obtain⟨v1,vs1,d1,ds1,p1,q1,rfl,rfl,rfl,h1,r1⟩:=trodAll_cons r0;obtain⟨v2,vs2,d2,ds2,p2,q2,rfl,rfl,rfl,h2,r2⟩:=trodAll_cons r1;obtain⟨v3,vs3,d3,ds3,p3,q3,rfl,rfl,rfl,h3,r3⟩:=trodAll_cons r2;obtain⟨rfl,rfl,rfl⟩:=trodAll_nil r3;obtain rfl:args= #[v0,v1,v2,v3]:=ZZ
 obtain⟨rfl,rfl⟩:=trodVars_none hV;obtain⟨cs0,rfl,k⟩:=okWide_struct Tryz.underlying30 (hval 0 30 v0 rfl rfl);have k0:=h0;have lt0:∀x∈p0,x.block < W.heap.size:=SZ
 obtain⟨n0,i0,u0⟩:∃n,SchemaV W W n (.agg cs0)/\n.wt <= Rows.uptoBulk d0:=by
  obtain⟨fuel,hf⟩:=h0;obtain⟨n,h1,h2⟩:=B7 hf;exact⟨n,⟨cs0.toList,by simp,h1⟩,h2⟩
 obtain⟨cs1,rfl,l⟩:=okWide_struct Tryz.underlying35 (hval 1 35 v1 rfl rfl);have k1:=h1;have lt1:∀x∈p1,x.block < W.heap.size:=SY
 obtain⟨n1,i1,u1⟩:∃n,bY W W n (.agg cs1)/\n.wt <= Rows.uptoBulk d1:=by
  obtain⟨fuel,hf⟩:=h1;obtain⟨n,h1,h2⟩:=FJ fuel _ _ hf;exact⟨n,⟨cs1.toList,by simp,h1⟩,h2⟩
 obtain⟨a2,len2,cap2,rfl⟩:=okWide_slice Tryz.underlying47 (hval 2 47 v2 rfl rfl);have k2:=h2;have lt2:∀x∈p2,x.block < W.heap.size:=SX
 obtain⟨n2,g,i2,u2⟩:∃xs:List PX,len2=xs.length/\u_7 W W (a2,xs.length,cap2) xs/\xs.length+1 <= Rows.uptoBulk d2:=by
  obtain⟨fuel,hf⟩:=h2;obtain⟨a,cap,xs,h0,h1,h2⟩:=N3 hf
  simp [Value.cells]at h0
  obtain⟨rfl,rfl,rfl⟩:=h0;exact⟨xs,rfl,h1,h2⟩
 subst g;obtain⟨a3,len3,cap3,rfl⟩:=okWide_slice Tryz.underlying36 (hval 3 36 v3 rfl rfl);have k3:=h3;have lt3:∀x∈p3,x.block < W.heap.size:=t_c
 obtain⟨n3,i,i3,u3⟩:∃zs:List Int,len3=zs.length/\RowA W W 1 a3 zs.length cap3 (zs.map (Value.int .i64))/\zs.length+1 <= Rows.uptoBulk d3:=by
  obtain⟨fuel,hf⟩:=h3;obtain⟨a,cap,zs,h0,h1,h2⟩:=C4 hf
  simp [Value.cells]at h0
  obtain⟨rfl,rfl,rfl⟩:=h0;exact⟨zs,rfl,h1,h2⟩
 subst i;have hb:Rows.uptoBulkAll _ <= 1048576:=of_decide_eq_true hk
 simp only [List.append_nil,Rows.uptoBulkAll,Nat.add_zero]at hb;clear c b;refine(f_k n0 n1 _ _ _ n2 n3 _ _ W P2 P2 P2 P2 i0 i1 i2 i3).mono fun e W' ⟨he,bel⟩=> ?_
 subst he;exact⟨_,rfl,_,_,_, [],_, [],d,trodAll_mk1 (shut_bool Tryz.underlying4 _),(trodAll_cons_mk (Below.trod wQ P3 (of_decide_eq_true P3) k0 bel lt0) (trodAll_cons_mk (Below.trod wQ P3 (of_decide_eq_true P3) k1 bel lt1) (trodAll_cons_mk (Below.trod wQ P3 (of_decide_eq_true P3) k2 bel lt2) (trodAll_cons_mk (Below.trod wQ P3 (of_decide_eq_true P3) k3 bel lt3) trodAll_mk0)))),rfl,bel.frame _,fun h=>by cases h⟩
theorem c_S (os:Os) (started:os.Started) (H:Type) (enc:TypeId×Value ->H) (F:Stop.Interp):
 ReturnsInHanded {} Tryz.checked os 6 .any ((Rows.OpenSpec.upto Rows.normFixedSpec).preRow enc Tryz.prog Tryz.f6 Rows.normFixedUptoRow.domain false Rows.normFixedUptoRow.laid) (((Rows.OpenSpec.upto Rows.normFixedSpec).at F).post enc Tryz.prog Tryz.f6 false true false false):=by
 obtain⟨places,hx⟩:=d_y os enc;refine returnsInHanded_of_row (C:=Tryz.checked) (s:=Rows.OpenSpec.upto Rows.normFixedSpec) own started P3 Tryz.func6
  (witness_row_atRef (enc:=enc) (C:=Tryz.checked) false (World.laidAll Tryz.prog os Rows.normFixedUptoRow.laid) #[.agg #[(), .string ⟨#[]⟩,OY, .string ⟨#[]⟩,OY, .string ⟨#[]⟩,(),OY, .string ⟨#[]⟩,OY,OY,OY,OY,OY,OY,OY], .agg #[false,(),(),()],(),()] (World.laidAll_os _ _ _) P3 P3 P3
    (OpenSpec.preRow_of_cond 8 hx P3 (fun k hk=>by cases hk;kernel_rfl) P3 QV)) ?_
 intro W base args ds gs before hval hW _ a _ hL _ _;exact b_u H enc W base args ds gs before hval hW (a _ rfl) hL
end Go.Proofs.YtmadpclcmjahoaaGreatDoor
