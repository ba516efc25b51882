/- The chain of the program: New. -/
import Derived.Test.YtjdiofjjoefnhaaGreatDoorMCl
set_option maxRecDepth 100000
namespace Go.Proofs.YtjdiofjjoefnhaaGreatDoor
open Go.ChangeShapes Go.WideShapes Go.ChangeAt Go.RowKit Go.Sort
def xu (r:i4)(j:Bool):Int:=if qc r=0 then (if (j != (r.mode==3))=true then 1 else 0)else qc r
def l9 (L:List mB):Nat->Int->List Int
 |0,_=> []
 |n+1,p=>match iA L p with
  |some e=>l9 L n e.b.parent++ [p]
  |none=> []
theorem kx {L:List mB}{x:Int}{e:mB}(h:iA L x=some e):e∈L/\e.id=x:=by
 refine⟨List.mem_of_find?_eq_some h,?_⟩;have:=List.find?_some h;simpa using this
theorem oA {L:List mB}{x:Int}{e:mB}(h:iA L x=some e)(j:List mB):iA (L++j) x=some e:=by
 unfold iA at h⊢;rw [List.find?_append,h];rfl
theorem q9 {L:List mB}{e:mB}(h:iA L e.id=none):iA (L++ [e]) e.id=some e:=by
 unfold iA at h⊢;rw [List.find?_append,h];simp
theorem Fe {L:List mB}{e:mB}{x:Int}(h:x≠e.id):iA (L++ [e]) x=iA L x:=by
 unfold iA;rw [List.find?_append]
 cases hh:L.find? λe=>e.id==x with
 |some y=>rfl
 |none=>
  have:(e.id==x)=false:=by rw [je];exact nB h
  simp [this]
theorem lW.nil (L:List mB):lW L []:=λk h=>by simp at h
theorem lW.snoc {L:List mB}{l:List Int}(h:lW L l){p:Int}{e:mB}(z:iA L p=some e)(hh:e.b.f'=l.length+1)(U:0<l.length->e.b.parent=l.getD (l.length-1) 0):lW L (l++ [p]):=by
 intro k G;rcases kZ k l.length with hlt|V
 ·obtain⟨u,h1,h2,y⟩:=h k hlt
  rw [TT hlt];refine⟨u,h1,h2,λj=> ?_⟩;rw [y j,U5,U5,TN UN]
 ·have K:k=l.length:=by simp at G;omega
  subst K;rw [TW (g9 _)];simp only [sp,List.getElem_singleton];refine⟨e,z,hh,λj=> ?_⟩;rw [U j,U5,U5,TN UN]
theorem lW.app {L:List mB}{l:List Int}(h:lW L l)(j:List mB):lW (L++j) l:=λk y=>by
 obtain⟨e,h1,h2,u⟩:=h k y;exact⟨e,oA h1 j,h2,u⟩
theorem lW.take {L:List mB}{l:List Int}(h:lW L l)(n:Nat):lW L (l.take n):=λk y=>by
 rw [Tq]at y;obtain⟨e,h1,h2,u⟩:=h k UN;refine⟨e,by rw [Uk];exact h1,h2,λj=> ?_⟩;rw [u j,U5,U5,T9,g7 UN]
def Closed (L:List mB):Prop:= ∀e∈L,e.b.f'=1\/ ∃p,iA L e.b.parent=some p/\p.b.f'=e.b.f'-1
theorem A3 {L:List mB}(z:Closed L): ∀(n:Nat) (p:Int) (e:mB),iA L p=some e->e.b.f'=n+1->lW L (l9 L (n+1) p)/\(l9 L (n+1) p).length=n+1/\(l9 L (n+1) p).getD n 0=p
 |0,p,e,j,hh=>by
  have y:l9 L 1 p= [p]:=by
   show(match iA L p with|some e=>l9 L 0 e.b.parent++ [p]|none=> [])=_
   rw [j];rfl
  rw [y];exact⟨(lW.nil L).snoc j (by rw [hh];rfl) (λh=>by simp at h),rfl,rfl⟩
 |n+1,p,e,j,hh=>by
  have y:l9 L (n+1+1) p=l9 L (n+1) e.b.parent++ [p]:=by
   show(match iA L p with|some e=>l9 L (n+1) e.b.parent++ [p]|none=> [])=_
   rw [j]
  rcases z e (kx j).1 with h1|⟨q,G,K⟩
  ·push_cast at hh;omega
  ·obtain⟨U,u,V⟩:=A3 z n e.b.parent q G (by rw [K,hh];push_cast;omega)
   rw [y];refine⟨U.snoc j (by rw [u,hh]) λ_=> ?_,by rw [U3,u];rfl,?_⟩
   ·rw [u,qT,V]
   ·rw [U5,TX UN,u];simp
theorem A' {L:List mB}(y:Closed L)(j:List mB): ∀(n:Nat) (p:Int) (e:mB),iA L p=some e->e.b.f'=n+1->l9 (L++j) (n+1) p=l9 L (n+1) p
 |0,p,e,u,hh=>by
  show(match iA (L++j) p with|some e=>l9 (L++j) 0 e.b.parent++ [p]|none=> [])=(match iA L p with|some e=>l9 L 0 e.b.parent++ [p]|none=> [])
  rw [u,oA u j];rfl
 |n+1,p,e,u,hh=>by
  show(match iA (L++j) p with|some e=>l9 (L++j) (n+1) e.b.parent++ [p]|none=> [])=(match iA L p with|some e=>l9 L (n+1) e.b.parent++ [p]|none=> [])
  rw [u,oA u j];rcases y e (kx u).1 with h1|⟨q,z,G⟩
  ·push_cast at hh;omega
  ·show l9 (L++j) (n+1) e.b.parent++ [p]=l9 L (n+1) e.b.parent++ [p]
   rw [A' y j n e.b.parent q z (by rw [G,hh];push_cast;omega)]
theorem ym {L:List mB}{l:List Int}(h:lW L l)(j:List mB):iG (L++j) l=iG L l:=by
 unfold iG;refine List.map_congr_left λx y=> ?_;obtain⟨k,u,rfl⟩:=TH y;obtain⟨e,h1, -⟩:=h k u;unfold wZ;rw [h1,oA h1 j]
theorem q3 (L:List mB)(l:List Int):(iG L l).length=l.length:=by unfold iG;rw [TC]
structure lE (r:i4)(m:k7):Prop where
 D9: ∀e∈m.L,iA m.L e.id=some e
 B5:Closed m.L
 blk: ∀e∈m.L,xK e.b/\e.id=iv e.b/\e.b.work=r.work
 high: ∀e∈m.L,1<=e.b.f'/\e.b.f'<=m.L.length
 run: ∀e∈m.L,j6 r (iG m.L (l9 m.L e.b.f'.toNat e.id))
 best:lW m.L m.best
 Ef:j6 r (iG m.L m.best)
 fin:m.hgt<=m.best.length/\(0<m.hgt->m.best.getD (m.hgt-1) 0=m.final)
theorem lW.len {L:List mB}{l:List Int}(h:lW L l)(hh: ∀e∈L,1<=e.b.f'/\e.b.f'<=L.length):l.length<=L.length:=by
 rcases vU l.length with j|j
 ·omega
 ·obtain⟨e,h1,h2, -⟩:=h (l.length-1) UN
  have:=(hh e (kx h1).1).2;omega
def iI (L:List mB)(b:hV):List Int:=l9 L (b.f'.toNat-1) b.parent
theorem qi {r:i4}{m:k7}(ok:lE r m){b:hV}(h1:1<=b.f')(j:kd m.L b=0):lW m.L (iI m.L b)/\((iI m.L b).length:Int)=b.f'-1/\(0<(iI m.L b).length->b.parent=(iI m.L b).getD ((iI m.L b).length-1) 0)/\j6 r (iG m.L (iI m.L b)):=by
 by_cases hh:b.f'=1
 ·have e:iI m.L b= []:=by unfold iI;rw [hh];rfl
  rw [e];exact⟨lW.nil _,by rw [hh];rfl,λh=>by simp at h,j6.nil r⟩
 ·unfold kd at j
  rw [g3 hh]at j
  cases u:iA m.L b.parent with
  |none=>rw [u]at j;simp at j
  |some e=>
   rw [u]at j;have z:(if e.b.f'=b.f'-1 then (0:Int)else 18)=0:=j;have V:e.b.f'=b.f'-1:=by
    split at z
    ·assumption
    ·simp at z
   obtain⟨n,y⟩: ∃n:Nat,b.f'=(n:Int)+2:=⟨(b.f'-2).toNat,UN⟩;have U:iI m.L b=l9 m.L (n+1) b.parent:=(by unfold iI;rw [show b.f'.toNat-1=n+1 by omega]);obtain⟨Y,K,ab⟩:=A3 ok.B5 n b.parent e u (by rw [V,y];omega);have G:=ok.run e (kx u).1;rw [(kx u).2,show e.b.f'.toNat=n+1 by omega]at G;rw [U];exact⟨Y,by rw [K,y];push_cast;omega,λ_=>by rw [K,qT,ab],G⟩
def pJ (r:i4):List jO->Int
 | []=>0
 |t::l=>if kF r.depth r.bl r.bu r.qu r.iz r.win r.fin r.work t=0 then pJ r l else kF r.depth r.bl r.bu r.qu r.iz r.win r.fin r.work t
def r8 (m:k7)(j:List Int):Bool:=decide (0<m.hgt/\(j.length<m.hgt\/j.getD (m.hgt-1) 0≠m.final))
def l' (r:i4)(m:k7)(b:hV):Int:=
 if iN r.work b=0 then
  (if (iA m.L (iv b)).isSome=true then 5
   else if kd m.L b=0 then
    (if r8 m (iI m.L b)=true then 19
     else if pJ r b.hQ=0 then jF r (jl r (iG m.L (iI m.L b))) b else pJ r b.hQ)
   else kd m.L b)
 else iN r.work b
def lC (m:k7)(b:hV):Int:=if 0<(iI m.L b).length then jh (b.work+((iA m.L b.parent).map (·.jy)).getD 0)else b.work
def rj (m:k7)(b:hV):Bool:=oG m (iv b) (lC m b)
def oe (m:k7)(b:hV)(xa:UP)(xc:Nat):k7:=⟨m.L++ [(⟨iv b,b,lC m b,xa,xc⟩:mB)],m.best,m.final,m.hgt⟩
def pk (r:i4)(m:k7)(b:hV)(xa:UP)(xc:Nat):k7:=
 if rj m b=true then wV r ⟨(oe m b xa xc).L,iI m.L b++ [iv b],m.final,m.hgt⟩else oe m b xa xc
structure su (r:i4)(m:k7)(b:hV):Prop where
 L9:iN r.work b=0
 new:iA m.L (iv b)=none
 par:kd m.L b=0
 fin:r8 m (iI m.L b)=false
 hQ:pJ r b.hQ=0
 app:jF r (jl r (iG m.L (iI m.L b))) b=0
theorem sub_zero {r:i4}{m:k7}{b:hV}(h:l' r m b=0):su r m b:=by
 unfold l' at h;split at h
 ·rename_i h1
  split at h
  ·simp at h
  ·rename_i h2
   split at h
   ·rename_i j
    split at h
    ·simp at h
    ·rename_i y
     split at h
     ·rename_i u
      refine⟨h1,by simpa using h2,j,by simpa using y,u,h⟩
     ·rename_i u;exact absurd h u
   ·rename_i j;exact absurd h j
 ·rename_i h1;exact absurd h h1
theorem kX {j:Int}{b:hV}(h:iN j b=0):jX b=0/\b.work=j:=by
 unfold iN at h;split at h
 ·rename_i h1
  split at h
  ·rename_i h2;exact⟨h1,h2.1⟩
  ·simp at h
 ·rename_i h1;exact absurd h h1
theorem x9 {L:List mB}{b:hV}(h:kd L b=0)(h1:b.f'≠1): ∃e,iA L b.parent=some e/\e.b.f'=b.f'-1:=by
 unfold kd at h;rw [g3 h1]at h
 cases j:iA L b.parent with
 |none=>rw [j]at h;simp at h
 |some e=>
  rw [j]at h;have u:(if e.b.f'=b.f'-1 then (0:Int)else 18)=0:=h;refine⟨e,rfl,?_⟩;split at u
  ·assumption
  ·simp at u
theorem Kw {r:i4}{m:k7}(ok:lE r m){b:hV}(h:su r m b)(xa:UP)(xc:Nat):
 l9 (m.L++ [(⟨iv b,b,lC m b,xa,xc⟩:mB)]) b.f'.toNat (iv b)=iI m.L b++ [iv b]:=by
 obtain⟨z,K⟩:=kX h.L9;have hh:=(kQ z).1;obtain⟨n,j⟩: ∃n,b.f'.toNat=n+1:=⟨b.f'.toNat-1,UN⟩;have y:iA (m.L++ [(⟨iv b,b,lC m b,xa,xc⟩:mB)]) (iv b)=some ⟨iv b,b,lC m b,xa,xc⟩:=q9 (e:=⟨iv b,b,lC m b,xa,xc⟩) h.new;rw [j];show(match iA (m.L++ [(⟨iv b,b,lC m b,xa,xc⟩:mB)]) (iv b)with|some e=>l9 (m.L++ [(⟨iv b,b,lC m b,xa,xc⟩:mB)]) n e.b.parent++ [iv b]|none=> [])=_
 rw [y];show l9 (m.L++ [(⟨iv b,b,lC m b,xa,xc⟩:mB)]) n b.parent++ [iv b]=_;unfold iI;rw [j,qT]
 cases n with
 |zero=>rfl
 |succ k=>
  obtain⟨e,u,G⟩:=x9 h.par UN;rw [A' ok.B5 _ k b.parent e u UN]
theorem yl {r:i4}{m:k7}(ok:lE r m){b:hV}(h:su r m b)(xa:UP)(xc:Nat):
 iG (m.L++ [(⟨iv b,b,lC m b,xa,xc⟩:mB)]) (iI m.L b++ [iv b])=iG m.L (iI m.L b)++ [b]:=by
 obtain⟨u,y⟩:=kX h.L9;obtain⟨hw, -⟩:=qi ok (kQ u).1 h.par;have j:iA (m.L++ [(⟨iv b,b,lC m b,xa,xc⟩:mB)]) (iv b)=some ⟨iv b,b,lC m b,xa,xc⟩:=q9 (e:=⟨iv b,b,lC m b,xa,xc⟩) h.new;rw [<-ym hw [(⟨iv b,b,lC m b,xa,xc⟩:mB)]];unfold iG;rw [T0];show _++ [wZ (m.L++ [(⟨iv b,b,lC m b,xa,xc⟩:mB)]) (iv b)]=_;unfold wZ;rw [j];rfl
theorem MH {r:i4}{m:k7}(h:lE r m)(u:0<=r.fin):lE r (wV r m):=by
 unfold wV;split
 ·rename_i j
  refine⟨h.D9,h.B5,h.blk,h.high,h.run,h.best,h.Ef,?_,λ_=>rfl⟩;show((m.best.length:Int)-r.fin).toNat<=m.best.length;omega
 ·exact h
theorem Bb {r:i4}{m:k7}(ok:lE r m){b:hV}(h:su r m b)(u:AU b):j6 r (iG m.L (iI m.L b)++ [b]):=by
 obtain⟨j,y⟩:=kX h.L9;obtain⟨-, -, -,hr⟩:=qi ok (kQ j).1 h.par;exact hr.snoc ⟨j,u⟩ h.app
theorem IQ {r:i4}{m:k7}(ok:lE r m){b:hV}(h:su r m b)(xa:UP)(xc:Nat):lW (m.L++ [(⟨iv b,b,lC m b,xa,xc⟩:mB)]) (iI m.L b++ [iv b]):=by
 obtain⟨u,z⟩:=kX h.L9;obtain⟨hw,y,j, -⟩:=qi ok (kQ u).1 h.par;exact(hw.app _).snoc (e:=⟨iv b,b,lC m b,xa,xc⟩) (q9 (e:=⟨iv b,b,lC m b,xa,xc⟩) h.new) (by show b.f'=_;omega) j
theorem Iy {r:i4}{m:k7}(ok:lE r m){b:hV}(h:su r m b)(y:AU b)(xa:UP)(xc:Nat):lE r (oe m b xa xc):=by
 obtain⟨z,V⟩:=kX h.L9;obtain⟨hh,Y, -⟩:=kQ z;obtain⟨hw,ab,ae,hr⟩:=qi ok hh h.par;have ad:=hw.len ok.high;refine⟨?_,?_,?_,?_,?_,ok.best.app _,?_,ok.fin⟩
 ·intro e j
  rcases Ti.1 j with h1|h1
  ·exact oA (ok.D9 e h1) _
  ·obtain rfl:=TD.1 h1
   exact q9 (e:=⟨iv b,b,lC m b,xa,xc⟩) h.new
 ·intro e j
  rcases Ti.1 j with h1|h1
  ·rcases ok.B5 e h1 with h2|⟨p,h2,u⟩
   ·exact .inl h2
   ·exact .inr ⟨p,oA h2 _,u⟩
  ·obtain rfl:=TD.1 h1
   by_cases h2:b.f'=1
   ·exact .inl h2
   ·obtain⟨p,u,G⟩:=x9 h.par h2
    exact .inr ⟨p,oA u _,G⟩
 ·intro e j
  rcases Ti.1 j with h1|h1
  ·exact ok.blk e h1
  ·obtain rfl:=TD.1 h1
   exact⟨⟨z,y⟩,rfl,V⟩
 ·intro e j
  show 1<=e.b.f'/\e.b.f'<=((m.L++ [_]).length:Nat);rw [U3,TF];rcases Ti.1 j with h1|h1
  ·have:=ok.high e h1
   omega
  ·obtain rfl:=TD.1 h1
   refine⟨hh,?_⟩;show b.f'<=_;omega
 ·intro e j
  show j6 r (iG (m.L++ [_]) (l9 (m.L++ [_]) e.b.f'.toNat e.id));rcases Ti.1 j with h1|h1
  ·have h2:=(ok.high e h1).1
   obtain⟨n,K⟩: ∃n,e.b.f'.toNat=n+1:=⟨e.b.f'.toNat-1,UN⟩;have U:=A3 ok.B5 n e.id e (ok.D9 e h1) UN;have u:=ok.run e h1;rw [K]at u⊢;rw [A' ok.B5 _ n e.id e (ok.D9 e h1) UN,ym U.1];exact u
  ·obtain rfl:=TD.1 h1
   show j6 r (iG (m.L++ [_]) (l9 (m.L++ [_]) b.f'.toNat (iv b)));rw [Kw ok h,yl ok h];exact Bb ok h y
 ·show j6 r (iG (m.L++ [_]) m.best)
  rw [ym ok.best];exact ok.Ef
theorem Ek {r:i4}{m:k7}(ok:lE r m)(G:0<=r.fin){b:hV}(h:su r m b)(y:AU b)(xa:UP)(xc:Nat):lE r (pk r m b xa xc):=by
 have j:=Iy ok h y xa xc;unfold pk;split
 ·refine MH ⟨j.D9,j.B5,j.blk,j.high,j.run,IQ ok h xa xc,?_,?_⟩ G
  ·show j6 r (iG (m.L++ [_]) (iI m.L b++ [iv b]))
   rw [yl ok h];exact Bb ok h y
  ·have h1:=h.fin
   unfold r8 at h1;rw [pg]at h1;show m.hgt<=(iI m.L b++ [iv b]).length/\(0<m.hgt->(iI m.L b++ [iv b]).getD (m.hgt-1) 0=m.final);rw [U3,TF];rcases vU m.hgt with u|u
   ·exact⟨UN,λh=>UN⟩
   ·have h2: ¬(iI m.L b).length<m.hgt:=λh=>h1 ⟨u,.inl h⟩
    refine⟨UN,λ_=> ?_⟩;have z: ¬(iI m.L b).getD (m.hgt-1) 0≠m.final:=λh=>h1 ⟨u,.inr h⟩;rw [U5,TN UN,<-U5];exact Classical.not_not.1 z
 ·exact j
def oI (l j:List Int):Nat:=match l,j with
 |a::l,b::j=>if a=b then oI l j+1 else 0
 |_,_=>0
theorem Gn: ∀(l j:List Int),oI l j<=l.length/\oI l j<=j.length/\l.take (oI l j)=j.take (oI l j)
 | [],_=>by unfold oI;simp
 |_::_,[]=>by unfold oI;simp
 |a::l,b::j=>by
  unfold oI;obtain⟨h1,h2,u⟩:=Gn l j;split
  ·rename_i h;subst h
   refine⟨by simp;omega,by simp;omega,by rw [Tr,Tr,u]⟩
  ·simp
theorem AA: ∀(l j:List Int) (n:Nat),n<=l.length->n<=j.length->l.take n=j.take n->(n<l.length->n<j.length->l.getD n 0≠j.getD n 0)->oI l j=n
 | [],j,n,h1,_,_,_=>by unfold oI;simp at h1;exact h1.symm
 |a::l,[],n,_,h2,_,_=>by unfold oI;simp at h2;exact h2.symm
 |a::l,b::j,0,_,_,_,u=>by
  unfold oI;rw [g3];exact u US US
 |a::l,b::j,n+1,h1,h2,y,u=>by
  rw [Tr,Tr]at y;injection y with e1 e2;unfold oI;rw [g7 e1,AA l j n (by simpa using h1) (by simpa using h2) e2 λz G=>by
   have:=u (by simpa using z) (by simpa using G);simpa using this]
open Tryz Go.Maps
def H2 (a:UP)(n cap:Nat):Option Addr:=if cap=n then a else a.map (·.add (n*1))
theorem Cw (w:World):(Go.sizeOf 24).run prog w= .ok 1 w:=UQ
theorem AS (w:World)(a:UP)(len cap n:Nat)(h:n<=len):
 (Instr.slice 55 (.slice a len cap) (some (UZ (n:Int))) none none).run prog w= .ok (.slice (H2 a n cap) (len-n) (cap-n)) w:=by
 have ht:prog.underlying 55=some (.slice 24):=UQ
 have u:prog.underlying 55=some (.slice (prog.elem 55)):=by simp [Program.elem,ht]
 have j:prog.elem 55=24:=by simp [Program.elem,ht]
 rw [run_slice_l w 55 _ _ _ u .i64 _ UN UN,j,Cw];unfold H2;simp [Result.andThen,sliced]
theorem xk {S:UO}{w:World}{a:UP}{cap:Nat}{l:List Int}(h:gZ.rel S w [.slice a l.length cap] l)(n:Nat)(G:n<=l.length):gZ.rel S w [.slice (H2 a n cap) (l.length-n) (cap-n)] (l.drop n):=by
 obtain⟨K,U,V,j⟩:=g4.lens h;rcases kZ n l.length with hlt|z
 ·obtain⟨b,off,rfl, -⟩:=il h n hlt
  have u:=g4.FQ h n G;have e:H2 (some ⟨b,off,none⟩) n cap=some ⟨b,off+n*1,none⟩:=by
   unfold H2;rw [g3 UN];show some (Addr.add _ _)=_;rw [Addr.add_lit]
  rw [e];exact u
 ·have e:l.length-n=0:=UN
  rw [e,TM z];refine⟨_,0,cap-n,rfl,rfl,iy _,UN,λh=> ?_,λi x h=>by simp at h⟩;have y:a=none:=by
   unfold H2 at h;split at h
   ·exact h
   ·simpa using h
  have:=j y;omega
theorem Jh {w:World}{b:Nat}{l:kY}(y:MapAt w b l)(u:l.length<maxLen){t e:TypeId}(ht:prog.underlying t=some (.map 24 e))(k:Int)(j:iZ k)(val:Value):
 ∃w',(Instr.mapUpdate t (.map (some b)) (U2 k) val).run prog w= .ok () w'/\MapAt w' b (vg l k val)/\tZ b w w'/\w'.heap.size=w.heap.size:=by
 obtain⟨w',z,h1,h2⟩:=World.ownsMap.store y Ea ht u (key:= U2 k) (kl:= .int .u64 k) (val:=val) (d:= .held val) (ps:= []) (keyOf_int_mk underlying24 j) rfl;rw [Gi]at h1;exact⟨w',z,MapAt.of h1,(l6 h2).1,(l6 h2).2⟩
theorem Kz {w:World}{mb:Nat}{L:List mB}(h:nn w mb L)(ab:L.length<=1000)(e:mB)(K:iZ e.id)(G:iA L e.id=none):
 ∃w',(Instr.mapUpdate 77 (.map (some mb)) (U2 e.id) (MY e)).run prog w= .ok () w'/\nn w' mb (L++ [e])/\tZ mb w w'/\w'.heap.size=w.heap.size:=by
 obtain⟨V,h1,h2,Y⟩:=h;obtain⟨w',U,u,y,z⟩:=Jh h1 (by unfold maxLen;omega) underlying77 e.id K (MY e);refine⟨w',U,⟨_,u,λx=> ?_,?_⟩,y,z⟩
 ·by_cases j:x=e.id
  ·subst j
   rw [rP,q9 G];rfl
  ·rw [qJ _ _ _ _ j,h2,Fe j]
 ·have:=CM V e.id (MY e)
  rw [U3,TF];omega
theorem y0 (L:List mB)(l:List Int)(n:Nat):iG L l=iG L (l.take n)++iG L (l.drop n):=by
 unfold iG;rw [<-T0,Tp]
theorem JN (L:List mB)(l:List Int)(k:Nat)(j:k<(iG L l).length):(iG L l)[k]=wZ L (l[k]'(by rw [q3]at j;exact j)):=Ul ..
theorem En (c:Nat) (SB PI:UO) (w:World) (r:i4) (hr:oo r) (m:k7) (l1 l2:List Int) (n:Nat) (v:p3) (h:j5 c SB PI w r m (iG m.L l1) v) (K:j6 r (iG m.L l1)) (U:j6 r (iG m.L l2)) (ae:l1.take n=l2.take n) (ai:n<=l2.length) (ag:l1.length<=200) (ah:l2.length<=200)
 (y:UP) (z:Nat) (S:UO) (ta:UP) (tc:Nat) (aj:gZ.rel S w [.slice ta l2.length tc] l2) (ad: ∀k,S k-> ¬jG c v k) (hw:lW m.L l2):
 Calls prog 31 #[.pointer (some ⟨c,0,none⟩),.slice y (l1.length-n) z,.slice (H2 ta n tc) (l2.length-n) (tc-n)] w λe w'=>e= .returned (.tuple #[])/\LW c SB PI v w r m (iG m.L l2) w':=by
 have u:=y0 m.L l1 n;have j:=y0 m.L l2 n;rw [<-ae]at j;have G:=xk aj n ai;have f1:l1.length-n=(iG m.L (l1.drop n)).length:=by rw [q3,Ts]
 have V:l2.length-n=(l2.drop n).length:=by rw [Ts]
 rw [u]at h K;rw [j]at U⊢;rw [V]at G⊢;rw [f1];have Y:(iG m.L (l1.take n)++iG m.L (l1.drop n)).length<=200:=by rw [<-u,q3];exact ag
 have ab:(iG m.L (l1.take n)++iG m.L (l2.drop n)).length<=200:=by rw [<-j,q3];exact ah
 refine Jo c SB PI w r hr m _ _ _ v h K U Y ab y z S _ _ _ G ad (q3 _ _).symm λk af ak=> ?_;rw [Ts]at af;obtain⟨e,h1, -, -⟩:=hw (n+k) UN;refine⟨e,(kx h1).1,by rw [Ug];exact h1,?_⟩;rw [JN,Ug];unfold wZ;rw [h1];rfl
theorem j5.put {c:Nat}{SB PI:UO}{w w':World}{r:i4}{m:k7}{bs:List hV}{v:p3}(h:j5 c SB PI w r m bs v)(e:mB)(j:Kept (λk=>k≠v.mb) w w')(V:nn w' v.mb (m.L++ [e]))(G:i7 (λk=>w.heap.size<=k) w' e.b e.xa e.xc)(hi:iZ e.id)(ht:iZ e.jy):
 j5 c (λk=>SB k\/(w.heap.size<=k/\k<w'.heap.size)) PI w' r ⟨m.L++ [e],m.best,m.final,m.hgt⟩ bs v/\lq c SB PI v w (λk=>SB k\/(w.heap.size<=k/\k<w'.heap.size)) PI v w':=by
 have z: ∀k,SB k->k≠v.mb:=λk j e=>h.free k (.inr (.inl e)) j;refine⟨⟨(j.block c (ii h.cell) h.us).trans h.cell,λe=>((h.Na e).keep j z).mono λk j=> .inl j,V,?_,gZ.mono (gZ.keep h.best (j.mono λk _=>z k)) λk _ j=> .inl j,h.state.keep j (λk j=>(h.pi k j).2) λk y e=>h.Li (e▸y),?_,h.Lj,h.Li,h.pi,?_⟩,j.mono λk _ U e=>U (.inr (.inl e)),λ_ h=> .inl h,λ_ h=> .inl h,?_,λ_ h=> .inl h⟩
 ·intro x Y
  rcases Ti.1 Y with h1|h1
  ·exact⟨((h.blocks x h1).1.keep (j.mono λk _=>z k)).mono λk _ j=> .inl j,(h.blocks x h1).2⟩
  ·obtain rfl:=TD.1 h1
   exact⟨G.mono λk j K=> .inr ⟨K,j⟩,hi,ht⟩
 ·intro k y u
  rcases u with h1|h1
  ·exact h.free k y h1
  ·have:=h.ki k y;omega
 ·intro k u
  rcases u with h1|h1
  ·exact jg (h.lt k h1) j.size
  ·exact h1.2
 ·intro k u
  rcases u with h1|h1
  ·exact .inl h1
  ·exact .inr h1.1
theorem j5.KA {c:Nat}{SB PI T:UO}{w:World}{r:i4}{m:k7}{bs:List hV}{v:p3}(h:j5 c SB PI w r m bs v)(l:List Int)(u:UP)(y:Nat)(ad:gZ.rel T w [.slice u l.length y] l)(K: ∀k,T k-> ¬jG c v k):
 j5 c (λk=>SB k\/(T k/\k<w.heap.size)) PI (w.setCell ⟨c,11,none⟩ (.slice u l.length y)) r ⟨m.L,l,m.final,m.hgt⟩ bs { v with ba:=u,bc:=y }/\Kept (λk=>k≠c) w (w.setCell ⟨c,11,none⟩ (.slice u l.length y)):=by
 have j:=h9 w c 11 (.slice u l.length y);obtain⟨h1,h2,G,ae,Y⟩:=h.LD j;refine⟨⟨h6 h.cell,λe=>(h1 e).mono λk j=> .inl j,h2,λe U=>⟨(G e U).1.mono λk _ j=> .inl j,(G e U).2⟩,?_,Y,?_,h.Lj,h.Li,h.pi,?_⟩,j⟩
 ·exact gZ.mono (gZ.keep ad (j.mono λk _ ht e=>K k ht (.inl e))) λk ab ht=> .inr ⟨ht,jg ab (by simp [World.setCell])⟩
 ·intro k V z
  rcases z with h1|h1
  ·exact h.free k V h1
  ·exact K k h1.1 V
 ·intro k z
  rcases z with h1|h1
  ·exact jg (h.lt k h1) j.size
  ·exact jg h1.2 j.size
theorem Ix (r:i4)(m:k7):(wV r m).L=m.L:=by unfold wV;split<;>rfl
theorem Ho (r:i4)(m:k7):(wV r m).best=m.best:=by unfold wV;split<;>rfl
theorem yo (m:k7)(b:hV)(xa:UP)(xc:Nat):(oe m b xa xc).L.length=m.L.length+1:=by unfold oe;simp
theorem xM (r:i4)(m:k7)(b:hV)(xa:UP)(xc:Nat):(pk r m b xa xc).L=(oe m b xa xc).L:=by
 unfold pk;split
 ·exact Ix _ _
 ·rfl
theorem Ky {r:i4}{m:k7}{b:hV}{xa:UP}{xc:Nat}(h:rj m b=false):pk r m b xa xc=oe m b xa xc:=by
 unfold pk;rw [g3 (by rw [h];simp)]
theorem IZ {r:i4}{m:k7}{b:hV}{xa:UP}{xc:Nat}(h:rj m b=true):pk r m b xa xc=wV r ⟨(oe m b xa xc).L,iI m.L b++ [iv b],m.final,m.hgt⟩:=by
 unfold pk;rw [g7 h]
end Go.Proofs.YtjdiofjjoefnhaaGreatDoor
