/- The chain of the program: Block and Work. -/
import Derived.Test.YtpkldapfgcjdcaaGreatDoorMLw
import Derived.Test.YtpkldapfgcjdcaaGreatDoorMChB
import Derived.Test.YtpkldapfgcjdcaaGreatDoorMTxR
set_option maxRecDepth 100000
set_option maxHeartbeats 4000000
namespace Go.Proofs.YtpkldapfgcjdcaaGreatDoor
open Tryz Go.ChangeShapes Go.WideShapes Go.ChangeAt Go.RowKit Go.Sort
section
variable (c:Nat) (SB PI:Nat->Prop) (w:World) (r:i4) (m:k7) (bs:List hV) (v:p3)
def xz (m:k7)(x:Int):Int:=((iA m.L x).map (·.jy)).getD 0
theorem IO (h:j5 c SB PI w r m bs v)(x:Int)(ad:iZ x):
 Calls prog 61 #[.pointer (some ⟨c,0,none⟩),x] w (Rt w (.tuple #[(xz m x),.bool (iA m.L x).isSome])):=by
 obtain⟨ae,ah⟩:=a' h.cell;simp only [jw]at ae;have u:=h.map.look_ok x ad
 cases j:iA m.L x with
 |none=>
  have K:Hi (xz m x=0):=Hd (by unfold xz;rw [j];rfl);rw [j]at u;have ab:(Instr.lookup 77 (.map (some v.mb)) (.int .u64 x) true).run prog w= .ok (.tuple #[.agg #[U0,I0,U0,U0,U0,S0,U0],false]) w:=u;have V:=Hd (gY w (.cells #[U0,I0,U0,U0,U0,S0,U0] 81));clear u h j;go_enter func61,ntmps61;go_upto_region 2 with(refine kI rfl _ _ _ rfl w.heap.size _ rfl rfl _ _ V.o (by kernel_rfl) rfl (by kernel_rfl) ?_)
  obtain⟨w2,z,G,U⟩: ∃y,_=y/\Hi (BW w y)/\Hi (y.heap[w.heap.size]? =some (.cells #[U0,I0,U0,U0,U0,S0,U0] 81 (0,0))):=
   ⟨_,rfl,below_setRow (g:=w.heap.size) (hd (g' _ _) (.cells #[U0,I0,U0,U0,U0,S0,U0] 81)) (g9 _) #[U0,I0,U0,U0,U0,S0,U0],kr _ _ _ _ _ _ V.o⟩
  rw [z];clear z;obtain⟨af,ag⟩:=a' U.o;go_wp2_with fail;go_ret2;exact⟨by rw [K.o];rfl,G.o⟩
 |some s=>
  have K:Hi (xz m x=s.jy):=Hd (by unfold xz;rw [j];rfl);rw [j]at u;have ab:(Instr.lookup 77 (.map (some v.mb)) (.int .u64 x) true).run prog w= .ok (.tuple #[.agg #[s.b.parent,.int .i64 s.b.f',s.b.hJ,s.b.work,s.b.e',.slice s.xa s.b.hQ.length s.xc,s.jy],true]) w:=u;have Y:=Hd (gY w (.cells #[U0,I0,U0,U0,U0,S0,U0] 81));clear u h j;go_enter func61,ntmps61;go_upto_region 2 with(refine kI rfl _ _ _ rfl w.heap.size _ rfl rfl _ _ Y.o (by kernel_rfl) rfl (by kernel_rfl) ?_)
  obtain⟨w2,z,G,U⟩: ∃y,_=y/\Hi (BW w y)/\Hi (y.heap[w.heap.size]? =some (.cells #[s.b.parent,.int .i64 s.b.f',s.b.hJ,s.b.work,s.b.e',.slice s.xa s.b.hQ.length s.xc,s.jy] 81 (0,0))):=
   ⟨_,rfl,below_setRow (g:=w.heap.size) (hd (g' _ _) (.cells #[U0,I0,U0,U0,U0,S0,U0] 81)) (g9 _) #[s.b.parent,.int .i64 s.b.f',s.b.hJ,s.b.work,s.b.e',.slice s.xa s.b.hQ.length s.xc,s.jy],kr _ _ _ _ _ _ Y.o⟩
  rw [z];clear z;obtain⟨af,ag⟩:=a' U.o;go_wp2_with fail;go_ret2;exact⟨by rw [K.o];rfl,G.o⟩
def OI (m:k7)(x:Int)(w:World)(e:Ending)(w':World):Prop:=
 (iA m.L x=none/\e= .returned (.tuple #[.agg #[U0,I0,U0,U0,U0,S0],false])/\BW w w')\/
 ∃(s:mB) (j:Option Addr) (u:Nat),iA m.L x=some s/\e= .returned (.tuple #[.agg #[s.b.parent,.int .i64 s.b.f',s.b.hJ,s.b.work,s.b.e',.slice j s.b.hQ.length u],true])/\i7 (λk=>w.heap.size<=k) w' s.b j u/\BW w w'
theorem Hy (h:j5 c SB PI w r m bs v)(aG: ∀e∈m.L,jX e.b=0)(x:Int)(aH:iZ x):
 Calls prog 60 #[.pointer (some ⟨c,0,none⟩),x] w (OI m x w):=by
 have ae:=jc w (.cells #[U0,I0,U0,U0,U0,S0] 44);obtain⟨aj,H,ag⟩:=kT (gY w (.cells #[U0,I0,U0,U0,U0,S0] 44)) (h.c' ae) ae;clear ae h;go_enter func60,ntmps60;go_upto_region 1 with(fail);generalize w.alloc (.cells #[U0,I0,U0,U0,U0,S0] 44)=W at*;obtain⟨aq,aI⟩:=a' H.o.cell;simp only [jw]at aq;have K:=H.o.map.look_ok x aH
 cases j:iA m.L x with
 |none=>
  rw [j]at K;have aE:(Instr.lookup 77 (.map (some v.mb)) (.int .u64 x) true).run prog W= .ok (.tuple #[.agg #[U0,I0,U0,U0,U0,S0,U0],false]) W:=K;obtain⟨az,ad⟩:=ik (gY W (.cells #[U0,I0,U0,U0,U0,S0,U0] 81)) j;clear K j;go_upto_region 2 with(refine kI rfl _ _ _ rfl W.heap.size _ rfl rfl _ _ az.o (by kernel_rfl) rfl (by kernel_rfl) ?_)
  obtain⟨w2,V,G⟩: ∃y,_=y/\Hi (BW W y):=
   ⟨_,rfl,below_setRow (g:=W.heap.size) (hd (g' _ _) (.cells #[U0,I0,U0,U0,U0,S0,U0] 81)) (g9 _) #[U0,I0,U0,U0,U0,S0,U0]⟩
  rw [V];have U:=Hd (b' G.o aj.o);clear V;go_wp2_with (refine kI rfl _ _ _ rfl w.heap.size _ rfl rfl _ _ U.o (by kernel_rfl) rfl (by kernel_rfl) ?_)
  have Y:Hi ((w2.setRow w.heap.size #[U0,I0,U0,U0,U0,S0]).heap[w.heap.size]? =some (Obj.cells #[U0,I0,U0,U0,U0,S0] 44 (0,0))):=kr _ _ _ _ _ _ U.o;have ab:=Hd (below_setRow (g:=w.heap.size) (d' ag.o G.o) (g9 _) #[U0,I0,U0,U0,U0,S0])
  (try simp only [Exit.inBlock,Exit.then])
  refine iQ (v:= .tuple #[.agg #[U0,I0,U0,U0,U0,S0],false]) ?_ rfl (.inl ⟨ad.o,rfl,ab.o⟩);exact ky results60 rfl Y.o underlying44 rfl (by kernel_rfl)
 |some s=>
  have ap:=aG s (kx j).1;have ao:=(H.o.blocks s (kx j).1).1;rw [j]at K;have aE:(Instr.lookup 77 (.map (some v.mb)) (.int .u64 x) true).run prog W= .ok (.tuple #[.agg #[s.b.parent,.int .i64 s.b.f',s.b.hJ,s.b.work,s.b.e',.slice s.xa s.b.hQ.length s.xc,s.jy],true]) W:=K;obtain⟨ak,ad,au,ah⟩:=oX (gY W (.cells #[U0,I0,U0,U0,U0,S0,U0] 81)) j ao ap;clear K j ao ap;go_upto_region 2 with(refine kI rfl _ _ _ rfl W.heap.size _ rfl rfl _ _ ak.o (by kernel_rfl) rfl (by kernel_rfl) ?_)
  obtain⟨w2,V,G,aA⟩: ∃y,_=y/\Hi (BW W y)/\Hi (y.heap[W.heap.size]? =some (.cells #[s.b.parent,.int .i64 s.b.f',s.b.hJ,s.b.work,s.b.e',.slice s.xa s.b.hQ.length s.xc,s.jy] 81 (0,0))):=
   ⟨_,rfl,below_setRow (g:=W.heap.size) (hd (g' _ _) (.cells #[U0,I0,U0,U0,U0,S0,U0] 81)) (g9 _) #[s.b.parent,.int .i64 s.b.f',s.b.hJ,s.b.work,s.b.e',.slice s.xa s.b.hQ.length s.xc,s.jy],kr _ _ _ _ _ _ ak.o⟩
  rw [V];obtain⟨U,av⟩:=ik (b' G.o aj.o) (au.o.c' G.o);clear V aq aI;obtain⟨aJ,aK⟩:=a' aA.o;go_wp2_with fail;refine(wM _ w2 s.b s.xa s.xc av.o (kQ ah.o).2.2.2.2.2.2 (λt ht=>by
   have h1:=JO ah.o;rw [List.all_eq_true]at h1;have h2:=h1 t ht;rw [iO]at h2;obtain⟨aL,a2,aC, -, -,aD⟩:=mt h2;exact⟨by omega,by omega,aD,λo aF=>by rw [aC o aF];omega⟩)).mono ?_
  rintro e af ⟨u,z,rfl,al,hb3⟩;obtain⟨Y,aw,ab⟩:=kT (b' hb3 U.o) al (d' ag.o (d' G.o hb3));have ai:Hi (w.heap.size<w2.heap.size):=ii U.o;clear aJ aK al hb3;go_wp2_with (refine kI rfl _ _ _ rfl w.heap.size _ rfl rfl _ _ Y.o (by kernel_rfl) rfl (by kernel_rfl) ?_)
  have ay:Hi ((af.setRow w.heap.size #[s.b.parent,.int .i64 s.b.f',s.b.hJ,s.b.work,s.b.e',.slice u s.b.hQ.length z]).heap[w.heap.size]? =some (Obj.cells #[s.b.parent,.int .i64 s.b.f',s.b.hJ,s.b.work,s.b.e',.slice u s.b.hQ.length z] 44 (0,0))):=kr _ _ _ _ _ _ Y.o;have ar:=Hd (below_setRow (g:=w.heap.size) ab.o (g9 _) #[s.b.parent,.int .i64 s.b.f',s.b.hJ,s.b.work,s.b.e',.slice u s.b.hQ.length z]);have ax:Hi (i7 (λk=>w.heap.size<=k) (af.setRow w.heap.size #[s.b.parent,.int .i64 s.b.f',s.b.hJ,s.b.work,s.b.e',.slice u s.b.hQ.length z]) s.b u z):=(aw.o.keep ((i9 af w.heap.size #[s.b.parent,.int .i64 s.b.f',s.b.hJ,s.b.work,s.b.e',.slice u s.b.hQ.length z]).mono λk _ (h:w2.heap.size<=k)=>by show k≠_;have:=ai.o;omega)).mono λk _ (h:w2.heap.size<=k)=>by have:=ai.o;omega
  (try simp only [Exit.inBlock,Exit.then])
  refine iQ (v:= .tuple #[.agg #[s.b.parent,.int .i64 s.b.f',s.b.hJ,s.b.work,s.b.e',.slice u s.b.hQ.length z],true]) ?_ rfl (.inr ⟨s,u,z,ad.o,rfl,ax.o,ar.o⟩);exact ky results60 rfl ay.o underlying44 rfl (by kernel_rfl)
end
end Go.Proofs.YtpkldapfgcjdcaaGreatDoor
