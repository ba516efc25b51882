/- The law lifted to the row. -/
import Derived.Test.YtphacfkcifpobaaGreatDoorScR
import Derived.Test.YtphacfkcifpobaaGreatDoorM30
import Derived.Test.YtphacfkcifpobaaGreatDoorReadsS
import Derived.Test.YtphacfkcifpobaaGreatDoorTabS
import Derived.SevenTiedAt
import Derived.LaidMore
import Derived.Lay
import Derived.LaidOnce
import Derived.Stop.Joined
set_option maxRecDepth 100000
namespace Go.Proofs.YtphacfkcifpobaaGreatDoor.scriptNew
open Go.ChangeShapes Go.WideShapes Go.ChangeAt Go.RowKit
theorem door_fits (os:Os):(World.holding Tryz.prog os ⟨#[],#[],[]⟩).layFits Tryz.prog Rows.scriptNewRow.laid []=true:=by kernel_rfl
theorem door_ifaces (os:Os):(World.holding Tryz.prog os ⟨#[],#[],[]⟩).layIfaces Tryz.prog Rows.scriptNewRow.laid (World.laidAll Tryz.prog os Rows.scriptNewRow.laid)=true:=by kernel_rfl
theorem door_met (os:Os)(args:Array Value):laidMetH Tryz.prog Rows.scriptNewRow.laid ((World.laidAll Tryz.prog os Rows.scriptNewRow.laid).forCall (fun _ _=>0) ⟨#[],args,[]⟩).memory:=by
  rw [MakeChecks.laidMetH_plain _ _ _ (by kernel_rfl)];exact laidMet_laidAll _ (door_fits os) (door_ifaces os)
theorem lifted (os:Os)(started:os.Started)(H:Type)(enc:TypeId×Value→H):
   ReturnsInHanded {} Tryz.checked os 3 .any (fun w args=>(Rows.scriptNewSpec.pre enc Tryz.prog Tryz.f3 [] false w args∧laidMetH Tryz.prog Rows.scriptNewRow.laid w)∧sizedMet enc Tryz.prog Tryz.f3 (OpenSpec.ofChange Rows.scriptNewSpec) false w args)
     (Rows.scriptNewSpec.post enc Tryz.prog Tryz.f3 false true false false):=by
 refine handed_and_shaped (C:=Tryz.checked) (X:=fun w _=>laidMetH Tryz.prog Rows.scriptNewRow.laid w) (fun _ _ _ hh h=>h.of_heap hh) own started (by kernel_rfl) Tryz.func3
   (ChangeSpec.witness_shaped (enc:=enc) (C:=Tryz.checked) (os:=os) (X:=fun w _=>laidMetH Tryz.prog Rows.scriptNewRow.laid w) false (World.laidAll Tryz.prog os Rows.scriptNewRow.laid)
     #[.agg #[.int .i64 0,.int .i64 0,.int .i64 0,.int .i64 0,.int .i64 0,.int .u64 0,.int .i64 0,.int .i64 0,.int .u64 0],.agg #[.int .u64 0,.bool false],.int .i64 0]
     8 (World.laidAll_os _ _ _) (World.shaped_of_ZipB (by kernel_rfl) (by kernel_rfl)) (by kernel_rfl) (by kernel_rfl) (by kernel_rfl) (door_met os _)) ?_
 intro W base args ds gs before hval0 hW hL hsh;have hval: ∀(j:Nat) t v,Tryz.f3.params[j]? =some t→args[j]? =some v→Value.okWide Tryz.prog W .any base t v:=hval0;have hW':=hW;obtain⟨p,q,hA0,hV,rfl,hfz,hnd⟩:=hW;have hA:DataW.TrodAll enc Tryz.prog W 0 (fun _=>true) true Tryz.f3.params.toList args.toList ds p:=hA0;rw [Tryz.params3]at hA hval;obtain⟨v0,vs0,d0,ds0,p0,q0,hargs,rfl,rfl,h0,r0⟩:=trodAll_cons hA;obtain⟨v1,vs1,d1,ds1,p1,q1,rfl,rfl,rfl,h1,r1⟩:=trodAll_cons r0;obtain⟨v2,vs2,d2,ds2,p2,q2,rfl,rfl,rfl,h2,r2⟩:=trodAll_cons r1;obtain⟨rfl,rfl,rfl⟩:=trodAll_nil r2;obtain rfl:args= #[v0,v1,v2]:=by cases args;simp_all
 obtain⟨rfl,rfl⟩:=trodVars_none hV;have k0:=h0;have lt0: ∀x∈p0,x.block<W.heap.size:=by obtain⟨m,hm⟩:=k0;exact DataW.trod_lt m _ _ _ hm
 have k1:=h1;have lt1: ∀x∈p1,x.block<W.heap.size:=by obtain⟨m,hm⟩:=k1;exact DataW.trod_lt m _ _ _ hm
 have k2:=h2;have lt2: ∀x∈p2,x.block<W.heap.size:=by obtain⟨m,hm⟩:=k2;exact DataW.trod_lt m _ _ _ hm
 have htxt:TxtAt W:=txt_of hL hsh (by kernel_rfl) (by kernel_rfl) (by kernel_rfl);obtain⟨r,hrw,rfl⟩:=open_rulesW (hval 0 26 v0 rfl rfl) h0;obtain⟨seed,ideal,hsd,rfl⟩:=open_place (hval 1 28 v1 rfl rfl) h1;obtain⟨x,rfl, -, -,hx⟩:=open_int Tryz.underlying3 (hval 2 3 v2 rfl rfl) h2;clear hA0 hval0;refine(new54_law parse54 W htxt ⟨r.mode,r.depth,r.bl,r.bu,r.q,r.rew,r.win,r.fin,r.work⟩ hrw seed hsd ideal x).mono fun e W' ⟨he,bel⟩=> ?_;subst he;exact⟨_,rfl,_,_,_,[],_,[],hW',trodAll_mk1 (shut_bool Tryz.underlying4 _),(trodAll_cons_mk (Below.trod laidOut (by kernel_rfl) (of_decide_eq_true (by kernel_rfl)) k0 bel lt0) (trodAll_cons_mk (Below.trod laidOut (by kernel_rfl) (of_decide_eq_true (by kernel_rfl)) k1 bel lt1) (trodAll_cons_mk (Below.trod laidOut (by kernel_rfl) (of_decide_eq_true (by kernel_rfl)) k2 bel lt2) trodAll_mk0))),rfl,bel.frame _,fun h=>by cases h⟩
end Go.Proofs.YtphacfkcifpobaaGreatDoor.scriptNew
