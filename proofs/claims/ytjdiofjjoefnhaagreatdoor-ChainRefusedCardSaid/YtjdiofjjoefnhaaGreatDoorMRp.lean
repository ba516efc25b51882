/- Submit of the reference in plain Lean: its tests, counts and chain are those of the program. -/
import Derived.Test.YtjdiofjjoefnhaaGreatDoorChU
import Derived.Test.YtjdiofjjoefnhaaGreatDoorRsE
import Derived.Test.YtjdiofjjoefnhaaGreatDoorR47
import Derived.Test.YtjdiofjjoefnhaaGreatDoorMRz
set_option maxRecDepth 100000
set_option maxHeartbeats 4000000
namespace Go.Proofs.YtjdiofjjoefnhaaGreatDoor
open Go.ChangeShapes Go.WideShapes Go.ChangeAt Go.RowKit Go.Sort
def m7 (rc:nL)(b:hV):Int:=if 1<b.f' then qe rc.L b.parent else -1
def lH (rc:nL)(b:hV):Bool:=decide ((b.f'=1/\b.parent≠0)\/(1<b.f'/\(m7 rc b<0\/mW rc.L (m7 rc b)≠b.f'-1)))
def tW (rc:nL)(i:Int):Bool:=decide (0<=rc.fin/\rc.fin∉js rc.L rc.L.length i)
def xA (L:List qb)(i:Int):Int:=(L.getD i.toNat rU).jy
def uh (rc:nL)(b:hV):Int:=if 0<=m7 rc b then jh (b.work+xA rc.L (m7 rc b))else b.work
def ng (rc:nL)(id jy:Int):Bool:=decide (0<=rc.lh/\(jy<xA rc.L rc.lh\/(xA rc.L rc.lh=jy/\r7 rc.L rc.lh<id)))
def ka (rc:nL)(b:hV):List qb:=rc.L++ [(⟨b,iv b,m7 rc b,uh rc b⟩:qb)]
def Ec (r:i4)(L:List qb)(way:List Int)(fin:Int):Int:=
 if 0<=(way.length:Int)-1-r.fin/\(fin<0\/mW L fin<(way.length:Int)-r.fin)then way.getD ((way.length:Int)-1-r.fin).toNat 0 else fin
def ui (r:i4)(rc:nL)(b:hV):nL:=
 if ng rc (iv b) (uh rc b)=true then ⟨ka rc b,rc.lh,rc.fin⟩
 else ⟨ka rc b,rc.L.length,Ec r (ka rc b) (js (ka rc b) (ka rc b).length rc.L.length) rc.fin⟩
section
variable {r:i4} {m:k7} {rc:nL}
theorem yg (L:List qb)(k:Nat)(h:k<L.length):r7 L (k:Int)=L[k].id:=by unfold r7;rw [jJ,lA _ _ h]
theorem tw (L:List qb)(k:Nat)(h:k<L.length):mW L (k:Int)=L[k].b.f':=by unfold mW;rw [g3 UN,jJ,lA _ _ h]
theorem tr (L:List qb)(k:Nat)(h:k<L.length):xA L (k:Int)=L[k].jy:=by unfold xA;rw [jJ,lA _ _ h]
theorem uz (L:List qb)(n:Nat):js L n (-1)= []:=by cases n<;>simp [js]
theorem xi (s:lD m rc)(ok:lE r m){i:Nat}(hi:i<rc.L.length)(k:Nat)(V:k<(js rc.L rc.L.length i).length):
 ∃(j:Nat) (u:j<rc.L.length),(js rc.L rc.L.length i)[k]=j/\rc.L[j].b.f'=k+1/\rc.L[j].id=(l9 m.L rc.L[i].b.f'.toNat rc.L[i].id).getD k 0:=by
 obtain⟨h1,h2⟩:=ro s ok rc.L.length i hi hi;have ai:=sB s.zU rc.L.length i UN UN _ (z3 V);obtain⟨j,u⟩: ∃j:Nat,(js rc.L rc.L.length i)[k]=j:=⟨((js rc.L rc.L.length i)[k]).toNat,UN⟩;have y:j<rc.L.length:=UN
 obtain⟨z,f1,G,ah, -⟩:=s.at ok i hi;have hh:=(ok.high z (kx f1).1).1;rw [G]at hh;obtain⟨q,ab⟩: ∃q:Nat,rc.L[i].b.f'.toNat=q+1:=⟨rc.L[i].b.f'.toNat-1,UN⟩;obtain⟨w1,w2, -⟩:=A3 ok.B5 q rc.L[i].id z f1 (by rw [G];omega);have Y:k<(l9 m.L (q+1) rc.L[i].id).length:=by rw [w2];omega
 have U:rc.L[j].id=(l9 m.L (q+1) rc.L[i].id)[k]:=by
  have:((js rc.L rc.L.length i).map (r7 rc.L))[k]'(by rw [TC];exact V)=(l9 m.L (q+1) rc.L[i].id)[k]:=by
   simp only [h1,ab]
  rw [Ul,u,yg _ _ y]at this;exact this
 obtain⟨e,ad,ae, -⟩:=w1 k Y;obtain⟨ag,K,af, -⟩:=s.at ok j y;rw [U,ad]at K;obtain rfl:=jR K;refine⟨j,y,u,by rw [<-af,ae],?_⟩;rw [ab,U,U5,z2 Y];rfl
theorem pr (s:lD m rc)(ok:lE r m){b:hV}(hh:1<=b.f'):kd m.L b=(if lH rc b=true then 18 else 0)/\
 (lH rc b=false->(b.f'=1/\m7 rc b= -1/\iI m.L b= [])\/ ∃(j:Nat) (ab:j<rc.L.length) (e:mB),1<b.f'/\m7 rc b=j/\iA m.L b.parent=some e/\rc.L[j].id=b.parent/\rc.L[j].b.f'=b.f'-1/\rc.L[j].jy=e.jy/\l9 m.L rc.L[j].b.f'.toNat rc.L[j].id=iI m.L b):=by
 unfold kd lH;by_cases h1:b.f'=1
 ·have K:m7 rc b= -1:=g3 UN
  rw [g7 h1];refine⟨?_,λ_=> .inl ⟨h1,K,by unfold iI;rw [h1];rfl⟩⟩;by_cases h2:b.parent=0
  ·rw [g7 h2,g3 (by rw [jk];omega)]
  ·rw [g3 h2,g7 (by rw [jk];exact .inl ⟨h1,h2⟩)]
 ·have K:m7 rc b=qe rc.L b.parent:=g7 UN
  rw [g3 h1,K];rcases s.find ok b.parent with⟨h2,z⟩|⟨e,k,V,h2,z,U,G,Y⟩
  ·rw [h2,z]
   have y:decide ((b.f'=1/\b.parent≠0)\/(1<b.f'/\((-1:Int)<0\/mW rc.L (-1)≠b.f'-1)))=true:=iP (.inr ⟨UN,.inl UN⟩);rw [y];exact⟨rfl,λh=>by simp at h⟩
  ·rw [h2,z,tw _ _ V,G]
   by_cases u:e.b.f'=b.f'-1
   ·have y:decide ((b.f'=1/\b.parent≠0)\/(1<b.f'/\((k:Int)<0\/e.b.f'≠b.f'-1)))=false:=iH UN
    rw [y];refine⟨by simp [u],λ_=> .inr ⟨k,V,e,UN,rfl,rfl,U,by rw [G];exact u,Y,?_⟩⟩;unfold iI;rw [U,G,u,show(b.f'-1).toNat=b.f'.toNat-1 by omega]
   ·have y:decide ((b.f'=1/\b.parent≠0)\/(1<b.f'/\((k:Int)<0\/e.b.f'≠b.f'-1)))=true:=iP (.inr ⟨UN,.inr u⟩)
    rw [y];exact⟨by simp [u],λh=>by simp at h⟩
theorem KS (s:lD m rc)(ok:lE r m){b:hV}(hh:1<=b.f')(ad:lH rc b=false):tW rc (m7 rc b)=r8 m (iI m.L b):=by
 unfold tW r8;rw [sr];rcases s.fin with⟨h1,h2,G⟩|⟨j,af,h1,h2,G,aq⟩
 ·rw [h1,h2];omega
 ·rw [h1]
  rcases (pr s ok hh).2 ad with⟨-,U,K⟩|⟨k,y,e, -,U, -, -, -, -,K⟩
  ·rw [U,K,uz]
   simp only [List.length_nil,List.not_mem_nil,not_false_eq_true,and_true];omega
  ·rw [U,<-K]
   have ag:=(ro s ok rc.L.length k y y);have au:(js rc.L rc.L.length k).length=(l9 m.L rc.L[k].b.f'.toNat rc.L[k].id).length:=(by rw [<-ag.1,TC]);constructor
   ·rintro⟨-,ai⟩
    refine⟨h2,?_⟩;rcases kZ (l9 m.L rc.L[k].b.f'.toNat rc.L[k].id).length m.hgt with hlt|ar
    ·exact .inl hlt
    ·refine .inr λae=>ai ?_
     obtain⟨p,Y,z,ab,u⟩:=xi s ok y (m.hgt-1) UN;rw [ae,<-G]at u;obtain rfl:=s.ids p j Y af u;rw [<-z];exact z3 _
   ·rintro⟨-,aj⟩
    refine⟨UN,λah=> ?_⟩;obtain⟨q,al,ap⟩:=TH ah;obtain⟨p,Y,z,ab,u⟩:=xi s ok y q al;rw [z]at ap;have ak:p=j:=UN;subst ak;have ao:q=m.hgt-1:=UN;rcases aj with V|V
    ·omega
    ·exact V (by rw [<-ao,<-u,G])
theorem Ba (s:lD m rc)(ok:lE r m){b:hV}(hh:1<=b.f')(K:lH rc b=false):uh rc b=lC m b:=by
 unfold uh lC;rcases (pr s ok hh).2 K with⟨-,y,j⟩|⟨k,u,e,h1,y,h2,V,Y,G,j⟩
 ·rw [y,j,g3 UN,g3 US]
 ·have z:=(ro s ok rc.L.length k u u)
  have U:(js rc.L rc.L.length k).length=(iI m.L b).length:=(by rw [<-j,<-z.1,TC]);rw [y,g7 UN,g7 (by rw [<-U,z.2];omega),tr _ _ u,G,h2];rfl
theorem Bl (s:lD m rc)(ok:lE r m){b:hV}(z:iA m.L (iv b)=none):rj m b= !ng rc (iv b) (lC m b):=by
 unfold rj oG ng;rcases s.lh with⟨h1,h2⟩|⟨j,u,h1,h2,K⟩
 ·rw [h1,h2,List.length_nil,g7 rfl,iH UN];rfl
 ·have V:m.best.length≠0:=λh=>h2 (T5 h)
  have ht:r4 m=rc.L[j].id:=(by unfold r4;rw [uX,K]);obtain⟨e,y,Y,ab,G⟩:=s.at ok j u;have ad:iv b≠rc.L[j].id:=λh=>(by rw [h,y]at z;simp at z);rw [g3 V,h1,tr _ _ u,yg _ _ u,ht,y];show(decide (e.jy<lC m b)||(lC m b==e.jy)&&decide (iv b<rc.L[j].id))= !decide _;rw [G];obtain⟨T,U⟩:=iF (rc.L[j].jy);rw [U];rw [oK,Bool.or_eq_true,kg,jk,iO,jk,Bool.not_eq_true',pg];omega
theorem kz {rc:nL}{b:hV}(k:Nat)(h:k<rc.L.length):(ka rc b)[k]'(by unfold ka;rw [U3];omega)=rc.L[k]:=by unfold ka;rw [TT h]
theorem l7 {rc:nL}{b:hV}:(ka rc b)[rc.L.length]'(by unfold ka;rw [U3];simp)=⟨b,iv b,m7 rc b,uh rc b⟩:=by unfold ka;rw [TW (g9 _)];simp
theorem q4 (rc:nL)(b:hV):(ka rc b).length=rc.L.length+1:=by unfold ka;simp
theorem Cn (s:lD m rc)(b:hV): ∀(n:Nat) (i:Int), -1<=i->i<rc.L.length->js (ka rc b) n i=js rc.L n i
 |0,_,_,_=>rfl
 |n+1,i,z,h1=>by
  by_cases u:i<0
  ·simp [js,u]
  ·obtain⟨k,rfl⟩: ∃k:Nat,i=k:=⟨i.toNat,UN⟩
   have j:k<rc.L.length:=UN;have y:=s.zU k j;rw [js,js,g3 u,g3 u,jJ,lA _ _ j,lA _ _ (by rw [q4];omega),kz k j,Cn s b n _ y.1 UN]
theorem F5 (s:lD m rc)(ok:lE r m){b:hV}(hh:1<=b.f')(j:lH rc b=false): -1<=m7 rc b/\m7 rc b<rc.L.length:=by
 rcases (pr s ok hh).2 j with⟨-,u, -⟩|⟨k,y,e, -,u, -⟩<;>omega
theorem Cm (s:lD m rc)(ok:lE r m){b:hV}(hh:1<=b.f')(u:lH rc b=false):js (ka rc b) (ka rc b).length rc.L.length=js rc.L rc.L.length (m7 rc b)++ [(rc.L.length:Int)]:=by
 have j:=F5 s ok hh u;rw [q4,js,g3 UN,jJ,lA _ _ (by rw [q4];omega),l7];show js (ka rc b) rc.L.length (m7 rc b)++_=_;rw [Cn s b _ _ j.1 j.2]
theorem sM (s:lD m rc)(ok:lE r m){b:hV}(hh:1<=b.f')(z:lH rc b=false):(js rc.L rc.L.length (m7 rc b)).length=(iI m.L b).length:=by
 rcases (pr s ok hh).2 z with⟨-,u,j⟩|⟨k,y,e, -,u, -, -, -, -,j⟩
 ·rw [u,j,uz]
 ·rw [u,<-j,<-(ro s ok rc.L.length k y y).1,TC]
theorem sL (s:lD m rc)(ok:lE r m){b:hV}(hh:1<=b.f')(Y:lH rc b=false)(k:Nat)(u:k<(js rc.L rc.L.length (m7 rc b)).length):
 ∃(j:Nat) (K:j<rc.L.length),(js rc.L rc.L.length (m7 rc b))[k]=j/\rc.L[j].b.f'=k+1/\rc.L[j].id=(iI m.L b).getD k 0:=by
 rcases (pr s ok hh).2 Y with⟨-,y,G⟩|⟨i,hi,e, -,y, -, -, -, -,G⟩
 ·rw [y,uz]at u;simp at u
 ·simp only [y]at u⊢
  obtain⟨j,K,U,V,z⟩:=xi s ok hi k u;rw [G]at z;exact⟨j,K,U,V,z⟩
theorem H0 (m:k7)(b:hV)(xa:UP)(xc:Nat)(k:Nat)(h:k<(oe m b xa xc).L.length)(u:k=m.L.length):(oe m b xa xc).L[k]=⟨iv b,b,lC m b,xa,xc⟩:=by
 subst u;have e: ∀(j:m.L.length<(m.L++ [(⟨iv b,b,lC m b,xa,xc⟩:mB)]).length),(m.L++ [(⟨iv b,b,lC m b,xa,xc⟩:mB)])[m.L.length]'j=⟨iv b,b,lC m b,xa,xc⟩:=λj=>by
  rw [TW (g9 _)];simp
 exact e h
theorem FY (s:lD m rc)(ok:lE r m){b:hV}(h:su r m b)(ae:lH rc b=false)(hh:1<=b.f')(xa:UP)(xc:Nat):lD (oe m b xa xc) ⟨ka rc b,rc.lh,rc.fin⟩:=by
 have ai:=s.len;have ag:=q4 rc b;have get: ∀k (u:k<(ka rc b).length),(∃aj:k<rc.L.length,(ka rc b)[k]=rc.L[k])\/(k=rc.L.length/\(ka rc b)[k]=⟨b,iv b,m7 rc b,uh rc b⟩):=by
  intro k u;rcases kZ k rc.L.length with h1|h1
  ·exact .inl ⟨h1,kz k h1⟩
  ·have:k=rc.L.length:=UN
   subst this;exact .inr ⟨rfl,l7⟩
 have fresh: ∀k (u:k<rc.L.length),rc.L[k].id≠iv b:=λk u K=>by
  obtain⟨e,ad, -⟩:=s.at ok k u;rw [K,h.new]at ad;simp at ad
 refine⟨?_,?_,?_,?_,?_,?_⟩
 ·show(ka rc b).length=(m.L++ [_]).length
  rw [ag,U3,ai];rfl
 ·intro k h1 h2
  show(ka rc b)[k].b=_/\(ka rc b)[k].id=_/\(ka rc b)[k].jy=_;rcases get k h1 with⟨u,z⟩|⟨u,z⟩
  ·have G:(oe m b xa xc).L[k]=m.L[k]' UN:=TT UN
   rw [z,G];exact s.elem k u UN
  ·have G:(oe m b xa xc).L[k]=⟨iv b,b,lC m b,xa,xc⟩:=H0 m b xa xc k h2 UN
   rw [z,G];exact⟨rfl,rfl,Ba s ok hh ae⟩
 ·intro i j hi y K
  rcases get i hi with⟨u,z⟩|⟨u,z⟩<;>rcases get j y with⟨Y,G⟩|⟨Y,G⟩<;>simp only [z,G]at K
  ·exact s.ids i j u Y K
  ·exact absurd K (fresh i u)
  ·exact absurd K.symm (fresh j Y)
  ·omega
 ·intro k u
  show((ka rc b)[k].b.f'=1/\(ka rc b)[k].par= -1)\/((ka rc b)[k].b.f'≠1/\ ∃(j:Nat) (y:j<(ka rc b).length),j<k/\(ka rc b)[k].par=j/\(ka rc b)[j].id=(ka rc b)[k].b.parent/\(ka rc b)[j].b.f'=(ka rc b)[k].b.f'-1);rcases get k u with⟨af,z⟩|⟨af,z⟩
  ·rw [z]
   rcases s.par k af with h1|⟨h1,j,y,ah,h2,U,V⟩
   ·exact .inl h1
   ·refine .inr ⟨h1,j,UN,ah,h2,?_,?_⟩<;>rw [kz j y]<;>assumption
  ·rw [z]
   rcases (pr s ok hh).2 ae with⟨h1,ab, -⟩|⟨j,y,e,h1,ab,h2,U,V, -, -⟩
   ·exact .inl ⟨h1,ab⟩
   ·refine .inr ⟨by show b.f'≠1;omega,j,UN,UN,ab,?_,?_⟩<;>rw [kz j y]<;>assumption
 ·rcases s.lh with h1|⟨j,y,h1,h2,U⟩
  ·exact .inl h1
  ·refine .inr ⟨j,by show j<(ka rc b).length;omega,h1,h2,?_⟩
   show(ka rc b)[j].id=_;rw [kz j y];exact U
 ·rcases s.fin with h1|⟨j,y,h1,h2,U,V⟩
  ·exact .inl h1
  ·refine .inr ⟨j,by show j<(ka rc b).length;omega,h1,h2,?_,?_⟩
   ·show(ka rc b)[j].id=_
    rw [kz j y];exact U
   ·show(ka rc b)[j].b.f'=_
    rw [kz j y];exact V
theorem Kx (s:lD m rc)(ok:lE r m){b:hV}(h:su r m b)(aq:0<=r.fin)(xa:UP)(xc:Nat):lD (pk r m b xa xc) (ui r rc b):=by
 have hh:1<=b.f':=(kQ (kX h.L9).1).1;have y:lH rc b=false:=by
  have h1:=(pr s ok hh).1;rw [h.par]at h1
  cases U:lH rc b with
  |false=>rfl
  |true=>rw [U]at h1;simp at h1
 have u:=FY s ok h y hh xa xc;have G:=Bl s ok h.new;have al:=Ba s ok hh y;unfold pk ui;rw [al]
 cases hw:ng rc (iv b) (lC m b)with
 |true=>
  rw [hw]at G;rw [g3 (by rw [G];simp),g7 rfl];exact u
 |false=>
  rw [hw]at G;rw [g7 (by rw [G];rfl),g3 US,Cm s ok hh y];have Y:=sM s ok hh y;have ap:((iI m.L b).length:Int)=b.f'-1:=(qi ok hh h.par).2.1;have ao:=q4 rc b;have ae:((rc.L.length:Int)= -1/\iI m.L b++ [iv b]= [])\/ ∃(j:Nat) (z:j<(ka rc b).length),(rc.L.length:Int)=j/\iI m.L b++ [iv b]≠ []/\(ka rc b)[j].id=(iI m.L b++ [iv b]).getD ((iI m.L b++ [iv b]).length-1) 0:=by
   refine .inr ⟨rc.L.length,UN,rfl,US,?_⟩;rw [l7,U3,TF,qT,U5,TX (g9 _)];simp
  unfold wV Ec;simp only [U3,TF];rw [Y];have V:(1<=(((iI m.L b).length+1:Nat):Int)-r.fin/\(m.hgt:Int)<(((iI m.L b).length+1:Nat):Int)-r.fin)↔(0<=(((iI m.L b).length+1:Nat):Int)-1-r.fin/\(rc.fin<0\/mW (ka rc b) rc.fin<(((iI m.L b).length+1:Nat):Int)-r.fin)):=by
   rcases s.fin with⟨h1,h2,ai⟩|⟨j,z,h1,h2,ai,aj⟩
   ·rw [h1,h2];omega
   ·rw [h1,tw _ _ UN,kz j z,aj];omega
  by_cases K:1<=(((iI m.L b).length+1:Nat):Int)-r.fin/\(m.hgt:Int)<(((iI m.L b).length+1:Nat):Int)-r.fin
  ·rw [g7 K,g7 (V.1 K)]
   refine⟨u.len,u.elem,u.ids,u.par,ae,.inr ?_⟩;obtain⟨q,U⟩: ∃q:Nat,(((iI m.L b).length+1:Nat):Int)-1-r.fin=q:=⟨((((iI m.L b).length+1:Nat):Int)-1-r.fin).toNat,UN⟩;have ak:((((iI m.L b).length+1:Nat):Int)-r.fin).toNat=q+1:=UN;rw [U,ak,jJ,qT];rcases kZ q (iI m.L b).length with ad|ad
   ·obtain⟨j,z,af,ag,ah⟩:=sL s ok hh y q UN
    refine⟨j,by show j<(ka rc b).length;omega,?_,by show 0<q+1;omega,?_,?_⟩
    ·show(js rc.L rc.L.length (m7 rc b)++ [(rc.L.length:Int)]).getD q 0=_
     rw [U5,TN UN,z2 UN,af];rfl
    ·show(ka rc b)[j].id=(iI m.L b++ [iv b]).getD q 0
     rw [kz j z,ah,U5,U5,TN ad]
    ·show(ka rc b)[j].b.f'=((q+1:Nat):Int)
     rw [kz j z,ag];push_cast;rfl
   ·have ab:q=(iI m.L b).length:=UN
    refine⟨rc.L.length,by show rc.L.length<(ka rc b).length;omega,?_,by show 0<q+1;omega,?_,?_⟩
    ·show(js rc.L rc.L.length (m7 rc b)++ [(rc.L.length:Int)]).getD q 0=_
     rw [U5,TX UN,ab,Y,sp];rfl
    ·show(ka rc b)[rc.L.length].id=(iI m.L b++ [iv b]).getD q 0
     rw [l7,ab,U5,TX (g9 _),sp];rfl
    ·show(ka rc b)[rc.L.length].b.f'=((q+1:Nat):Int)
     rw [l7];show b.f'=_;omega
  ·rw [g3 K,g3 (λh=>K (V.2 h))]
   exact⟨u.len,u.elem,u.ids,u.par,ae,u.fin⟩
theorem AC {P Q:List Int}{n:Nat}(G:n<=P.length)(h: ∀(i:Nat) (hi:i<P.length),P[i]∈Q↔i<n):tR P Q=P.length-n:=by
 unfold tR;have e:(P.filter λx=> !decide (x∈Q))=P.drop n:=by
  rw [<-Tp n P,List.filter_append];have u:((P.take n).filter λx=> !decide (x∈Q))= []:=by
   rw [List.filter_eq_nil_iff];intro x j;obtain⟨i,hi,rfl⟩:=TH j;rw [Tq]at hi;rw [Uk];simp [(h i UN).2 UN]
  have y:((P.drop n).filter λx=> !decide (x∈Q))=P.drop n:=by
   rw [List.filter_eq_self];intro x j;obtain⟨i,hi,rfl⟩:=TH j;rw [Ts]at hi;rw [Ug];have: ¬P[n+i]∈Q:=λz=>(by have:=(h (n+i) UN).1 z;omega);simp [this]
  rw [u,y,Tp,TB]
 rw [e,Ts]
theorem Gp: ∀(l j:List Int) (n:Nat),n<=l.length->n<=j.length->l.take n=j.take n->n<=oI l j
 |_,_,0,_,_,_=>iy _
 | [],_,n+1,h,_,_=>by simp at h
 |_::_,[],n+1,_,h,_=>by simp at h
 |a::l,b::j,n+1,h1,h2,u=>by
  rw [Tr,Tr]at u;obtain⟨rfl,y⟩:=List.cons.inj u;unfold oI;rw [g7 rfl];have:=Gp l j n (by simp at h1;omega) (by simp at h2;omega) y;omega
theorem z7 {L:List mB}{l j:List Int}(h:lW L l)(z:lW L j): ∀(n:Nat),n<l.length->n<j.length->l.getD n 0=j.getD n 0->l.take (n+1)=j.take (n+1)
 |n,h1,h2,u=>by
  have G:l.getD n 0=l[n]:=mD l n h1;have K:j.getD n 0=j[n]:=mD j n h2;rw [G,K]at u;rw [z4 h1,z4 h2,u];congr 1
  cases n with
  |zero=>simp
  |succ n=>
   obtain⟨e,y, -,U⟩:=h (n+1) h1;obtain⟨ab,V, -,Y⟩:=z (n+1) h2;rw [u,V]at y;obtain rfl:=jR y;have:=(U UN).symm.trans (Y UN);rw [qT]at this;exact z7 h z n UN UN this
theorem Da (s:lD m rc)(ok:lE r m)(k:Nat)(u:k<(js rc.L rc.L.length rc.lh).length):
 ∃(j:Nat) (G:j<rc.L.length),(js rc.L rc.L.length rc.lh)[k]=j/\rc.L[j].b.f'=k+1/\rc.L[j].id=m.best.getD k 0:=by
 have y:=s.best ok;have ht:=s.lh;unfold zZ at y;rcases ht with⟨h1, -⟩|⟨i,hi,h1,h2,V⟩
 ·rw [h1,uz]at u;simp at u
 ·simp only [h1]at u y⊢
  obtain⟨j,G,K,U,z⟩:=xi s ok hi k u;rw [<-(ro s ok rc.L.length i hi hi).1,y]at z;exact⟨j,G,K,U,z⟩
theorem Db (s:lD m rc)(ok:lE r m):(js rc.L rc.L.length rc.lh).length=m.best.length:=by
 have:=congrArg List.length (s.best ok);unfold zZ at this;rwa [TC]at this
theorem KW (s:lD m rc)(ok:lE r m){b:hV}(h:su r m b)(hw:ng rc (iv b) (lC m b)=false):
 (tR (js rc.L rc.L.length rc.lh) (js (ka rc b) (ka rc b).length rc.L.length):Int)=tO m b/\(tR (js (ka rc b) (ka rc b).length rc.L.length) (js rc.L rc.L.length rc.lh):Int)=tP m b:=by
 have hh:1<=b.f':=(kQ (kX h.L9).1).1;have af:lH rc b=false:=by
  have h1:=(pr s ok hh).1;rw [h.par]at h1
  cases z:lH rc b with
  |false=>rfl
  |true=>rw [z]at h1;simp at h1
 have ag:=Bl s ok h.new;rw [hw]at ag;rw [Cm s ok hh af];obtain⟨ax, -, -, -⟩:=qi ok hh h.par;have az:=sM s ok hh af;have ay:=Db s ok;obtain⟨c1,c2,ao⟩:=Gn (iI m.L b) m.best;have U:=Da s ok;have ai:=sL s ok hh af;have aw:=s.ids;unfold tO tP;rw [g7 (by rw [ag];rfl),g7 (by rw [ag];rfl)];have ap: ∀i,i<(iI m.L b).length->i<m.best.length->(iI m.L b).getD i 0=m.best.getD i 0->i<oI (iI m.L b) m.best:=λi h1 h2 au=>by
  have ar:=z7 ax ok.best i h1 h2 au;have:=Gp _ _ (i+1) UN UN ar;omega
 have aq: ∀i,i<oI (iI m.L b) m.best->(iI m.L b).getD i 0=m.best.getD i 0:=λi hi=>by
  have h1:((iI m.L b).take (oI (iI m.L b) m.best))[i]? =(m.best.take (oI (iI m.L b) m.best))[i]? :=(by rw [ao]);rw [List.getElem?_take_of_lt hi,List.getElem?_take_of_lt hi]at h1;rw [U5,U5,h1]
 generalize js rc.L rc.L.length rc.lh=P at*;generalize js rc.L rc.L.length (m7 rc b)=Q at*
 have both: ∀(i:Nat) (hi:i<P.length) (u:i<Q.length),P[i]=Q[i]↔i<oI (iI m.L b) m.best:=by
  intro i hi u;obtain⟨j,V,y,al,ad⟩:=U i hi;obtain⟨k,ah,f1,ak,ab⟩:=ai i u;rw [y,f1];constructor
  ·intro e
   have Y:j=k:=UN;subst Y;exact ap i UN UN (by rw [<-ab,<-ad])
  ·intro G
   have:=aw j k V ah (by rw [ad,ab,aq i G]);omega
 constructor
 ·rw [AC (n:=oI (iI m.L b) m.best) UN λi hi=> ?_]
  ·omega
  ·rw [Ti,TD]
   constructor
   ·rintro(K|K)
    ·obtain⟨q,z,ae⟩:=TH K
     obtain⟨j,V,y,al,ad⟩:=U i hi;obtain⟨k,ah,f1,ak,ab⟩:=ai q z;rw [f1,y]at ae;have Y:k=j:=UN;subst Y;have aj:q=i:=UN;subst aj;exact(both q hi z).1 (by rw [y,f1])
    ·obtain⟨j,V,y, -⟩:=U i hi
     omega
   ·intro G
    have u:i<Q.length:=UN;exact .inl (by rw [(both i hi u).2 G];exact z3 _)
 ·rw [AC (n:=oI (iI m.L b) m.best) (by rw [U3];omega) λi hi=> ?_]
  ·rw [U3,TF];omega
  ·rw [U3,TF]at hi
   rcases kZ i Q.length with u|u
   ·rw [TT u]
    constructor
    ·intro K
     obtain⟨q,z,ae⟩:=TH K;obtain⟨j,V,y,al,ad⟩:=U q z;obtain⟨k,ah,f1,ak,ab⟩:=ai i u;rw [f1,y]at ae;have Y:j=k:=UN;subst Y;have aj:q=i:=UN;subst aj;exact(both q z u).1 (by rw [y,f1])
    ·intro G
     have av:i<P.length:=UN;rw [<-(both i av u).2 G];exact z3 _
   ·rw [TW u]
    simp only [List.getElem_singleton];constructor
    ·intro K
     obtain⟨q,z,ae⟩:=TH K;obtain⟨j,V,y, -⟩:=U q z;omega
    ·intro G;omega
end
open Tryz
theorem zu (S:UO)(w:World)(r:i4)(b:hV)(xa:UP)(xc:Nat)(h:i7 S w b xa xc):
 Calls prog 36 #[.agg (p6 r),.agg (jI b xa xc)] w (Rt w (UZ (iN r.work b))):=by
 have ag:=hd (jc w (.cells (p6 r) 26)) (.cells (jI b xa xc) 44);have ao:=Hd (ji w (.cells (p6 r) 26) (.cells (jI b xa xc) 44)).2;have ak:=Hd (ji w (.cells (p6 r) 26) (.cells (jI b xa xc) 44)).1;obtain⟨H,ae⟩:=ik (h.c' ag) ag;clear ag h;go_in;go_upto_region 1 with(fail);generalize (w.alloc (.cells (p6 r) 26)).alloc (.cells (jI b xa xc) 44)=W at*;obtain⟨ad,ar⟩:=a' ak.o;go_wp2_with fail;refine UR (tG S W b xa xc H.o) λw1 hb1=> ?_;have z:=Hd hb1;clear ad ar hb1;by_cases j:jX b=0
 ·have U:Hi (iN r.work b=if b.work=r.work/\zg b % b.work=0 then 0 else 17):=by show _=_;unfold iN;rw [g7 j]
  have af:Hi (iv b=zg b):=g7 j;obtain⟨f1,av,aw,ax,ay,az,aA⟩:=kQ j;rw [j];clear j;have al:=Hd (H.o.c' z.o);have K: ∀(d:Nat) (os:Array Obj),Calls prog 19 #[.agg (jI b xa xc)] (grow (redrawn w1 d) os) λe w'=>e= .returned (U2 (zg b))/\Below (grow (redrawn w1 d) os).heap.size (grow (redrawn w1 d) os) w':=λd os=>by
   rw [<-af.o];exact t6 S _ b xa xc (al.o.c' (lm w1 d os))
  have ad:=g0 (b' z.o ak.o);have ah:=g0 (b' z.o ao.o);have ab:(zg b).tmod b.work=zg b % b.work:=Ik (Eq b).1;by_cases u:b.work=r.work
  ·have ai:(b.work==r.work)=true:=by rw [iO];exact u
   have aj:(b.work != r.work)=false:=(by rw [jt];exact u);have ap:=Hd u;have aC:b.work≠0:=UN;clear u af;by_cases V:zg b % b.work=0
   ·have G:Hi (iN r.work b=0):=by show _=_;rw [U.o,g7 ⟨ap.o,V⟩]
    have au:((zg b).tmod b.work != 0)=false:=(by rw [ab,V];rfl);clear ab V U;go_wp2;refine m6 ?_
    repeat (first|go_big_quiet_step (exact ie (K _ _))|quiet_step (exact ie (K _ _)))
    refine lz ?_;intro w2 hbq;clear ad ah K;have Y:=Hd (d' z.o hbq);go_wp2;go_ret;exact⟨g2 G.o.symm,d' ae.o Y.o⟩
   ·have G:Hi (iN r.work b=17):=by show _=_;rw [U.o,g3 λh=>V h.2]
    have au:((zg b).tmod b.work != 0)=true:=(by rw [ab,iB];exact V);clear ab V U;go_wp2;refine m6 ?_
    repeat (first|go_big_quiet_step (exact ie (K _ _))|quiet_step (exact ie (K _ _)))
    refine lz ?_;intro w2 hbq;clear ad ah K;have Y:=Hd (d' z.o hbq);go_wp2;go_ret;exact⟨g2 G.o.symm,d' ae.o Y.o⟩
  ·have G:Hi (iN r.work b=17):=by show _=_;rw [U.o,g3 λh=>u h.1]
   have ai:(b.work==r.work)=false:=(by rw [je];exact u);have aj:(b.work != r.work)=true:=(by rw [iB];exact u);clear K ab u U af;go_wp2;refine m6 ?_
   repeat (first|go_big_quiet_step (fail)|quiet_step (fail))
   refine lz ?_;intro w2 hbq;clear ad ah;have Y:=Hd (d' z.o hbq);go_wp2;go_ret;exact⟨g2 G.o.symm,d' ae.o Y.o⟩
 ·have G:Hi (iN r.work b=jX b):=by show _=_;unfold iN;rw [g3 j]
  have ai:(jX b==0)=false:=(by rw [je];exact j);have aj:(jX b != 0)=true:=(by rw [iB];exact j);obtain⟨y,hy⟩:=iF (jX b);have aq:=Hd hy;rw [hy]at ai aj⊢;clear hy j;go_wp2;go_ret;exact⟨g2 (by rw [G.o,aq.o]),d' ae.o z.o⟩
section
variable {r:i4} {m:k7} {rc:nL}
theorem C9 (L:List mB)(l:List Int)(q:Nat)(h:q<(iG L l).length)(h2:q<l.length):(iG L l)[q]=wZ L l[q]:=by
 have e: ∀(j:q<(l.map (wZ L)).length),(l.map (wZ L))[q]'j=wZ L l[q]:=λ_=>Ul _;exact e h
theorem IP (s:lD m rc)(ok:lE r m){b:hV}(hh:1<=b.f')(u:lH rc b=false):kO rc.L (js rc.L rc.L.length (m7 rc b))=iG m.L (iI m.L b):=by
 have Y:=sM s ok hh u;refine Um (by unfold kO iG;rw [TC,TC,Y]) λk h1 h2=> ?_;have z:k<(js rc.L rc.L.length (m7 rc b)).length:=by unfold kO at h1;rwa [TC]at h1
 obtain⟨j,y,U,ab,V⟩:=sL s ok hh u k z;rw [yn _ _ _ h1 z,C9 _ _ _ h2 UN,U,jJ,lA _ _ y];obtain⟨e,f1,K, -⟩:=s.at ok j y;have G:(iI m.L b)[k]' UN=rc.L[j].id:=by rw [V,U5,z2 UN];rfl
 unfold wZ;rw [G,f1,<-K];rfl
theorem Jy (s:lD m rc)(ok:lE r m)(x:Int):(0<=qe rc.L x)↔(iA m.L x).isSome=true:=by
 rcases s.find ok x with⟨h1,h2⟩|⟨e,k,j,h1,h2, -⟩
 ·rw [h1,h2];simp
 ·rw [h1,h2];simp
end
theorem sy {P:Program} {u:Func} {p u1 u2 y:Tmp} {ty:TypeId} (h:u.results= #[.cell p ty,.tmp u1,.tmp u2,.tmp y]) {j:Array Value} {w:World} {g:Nat} {t:TypeId} {cs:Array Value} {fr:Nat×Nat} {d:TypeDesc}
 (K:j.getD p undef= .pointer (some ⟨g,0,none⟩)) (G:w.heap[g]? =some (.cells cs t fr))
 (V:P.underlying ty=some d) (z:(match d with| .struct _| .array _ _=>true|_=>false)=true) (hi:(P.info? ty).map (·.size)=some cs.size):
 (results u j).run P w= .ok (.tuple #[.agg cs,j.getD u1 undef,j.getD u2 undef,j.getD y undef]) w:=by
 have U:j[p]?.getD undef= .pointer (some ⟨g,0,none⟩):=by simpa using K
 simp [results,h,U,asAddr,run_loadVar_row w g t ty cs fr d G V z hi]
theorem Jc (S:UO)(w:World)(r:i4)(j:r.mode=2)(t:jO)(ma oa pa:UP)(mc oc pc:Nat)(h:ks S w t ma oa pa mc oc pc)(u:t.proof.length<=1000000):
 Calls prog 40 #[.agg ri,.agg (p6 r),.agg (jQ t ma mc oa oc pa pc)] w (Rt w (UZ (kF r.depth r.bl r.bu r.qu r.iz r.win r.fin r.work t))):=by
 unfold p6;rw [j];exact Dw S w r.depth r.bl r.bu r.qu r.iz r.win r.fin r.work t ma oa pa mc oc pc h u
theorem kB {P:Program} {ops:Array Oper} {o:Oper} {a:Act} {U:Act->World->Prop} {Q:Exit->Act->World->Prop} {E:Prop} (ai:o.guard=none) (s x:Operand) {t:TypeId}
 (al:o.op= .call { callee:= .builtin .append,args:= #[s,x],argTypes:= #[t,t] }) {α:Type} {r:kS α} {B:Nat} {e:TypeId} {bytes:Nat} (ag:jj P t e r.n bytes) {S:UO} (af: ∀k,S k->k<B) {w0 w:World} {v u:Value} {xs ys y:List α}
 (ap:a.eval s=v) (ar:a.eval x=u) (ab:xs++ys=y) (V:Below B w0 w) (ad:B<=w0.heap.size) (h:Own r B e (λk=>S k\/B<=k) w v xs) (aq:Src r S w u ys) (ak:y.length<=1000000) (ah:bytes<=1000)
 (ae: ∀z G w',Own r B e (λk=>S k\/B<=k) w' (.slice z y.length G) y->Below B w0 w'->Kept (λk=>v.ownBlock≠some k) w w'->U (a.put o.dst (.slice z y.length G)) w'):
 if Region.wanted o (yielded ops a.tmps)=true then Oper.wp P o a w U Q else E:=by
 have aj:xs.length+ys.length=y.length:=by rw [<-ab,U3]
 have Y:=iu ad V.size;refine iV ai s x al ag ap ar h aq (λ_ _ h=> .inl h) (λk j ao=>by have h1:=(h.lt j).2.2;have h2:=af k ao;omega) (by unfold maxLen;omega) (by rw [aj];exact iu (Nat.mul_le_mul ak ah) UN) Y λv' w' K j _=> ?_;rw [ab]at K;obtain⟨z,G,h1, -, -⟩:=g4.form K.slice;subst h1;exact ae z G w' (K.mono λk _ j=>by rcases j with j|j;exact j;exact .inr UN) (Kept.behind V j Y λk j e=>by have:=(h.lt e).2.2;omega) j
structure nM (r:i4)(w0:World)(SP SB:UO)(la:UP)(lc:Nat)(rc:nL)(b:hV)(xa:UP)(xc:Nat)(w:World):Prop where
 cc:w.heap[w0.heap.size]? =some (.cells (mE false r la lc rc) 39 (0,0))
 cb:w.heap[w0.heap.size+1]? =some (.cells (jI b xa xc) 44 (0,0))
 cr:w.heap[w0.heap.size+2]? =some (.cells pn 39 (0,0))
 tK:jf.rel (λj=>SP j/\j<w0.heap.size) w [.slice la rc.L.length lc] rc.L
 blk:i7 (λj=>SB j/\j<w0.heap.size) w b xa xc
 mx:BW w0 w
section
variable {r:i4} {w0 w w':World} {SP SB:UO} {la:UP} {lc:Nat} {rc:nL} {b:hV} {xa:UP} {xc:Nat}
theorem nM.size (h:nM r w0 SP SB la lc rc b xa xc w):w0.heap.size+3<=w.heap.size:=ii h.cr
theorem nM.c' (h:nM r w0 SP SB la lc rc b xa xc w)(j:BW w w'):nM r w0 SP SB la lc rc b xa xc w':=
 ⟨b' j h.cc,b' j h.cb,b' j h.cr,jf.c' h.tK j,h.blk.c' j,h.mx.trans (j.mono (by have:=h.size;omega))⟩
theorem nM.row (h:nM r w0 SP SB la lc rc b xa xc w){q:Nat}(u:w0.heap.size+3<=q)(cs:Array Value):nM r w0 SP SB la lc rc b xa xc (w.setRow q cs):=
 ⟨by rw [setRow_other _ _ _ _ UN];exact h.cc,by rw [setRow_other _ _ _ _ UN];exact h.cb,by rw [setRow_other _ _ _ _ UN];exact h.cr,jf.keep h.tK ((i9 _ _ _).mono λk _ j=>by have h1:=j.2;show k≠_;omega),
  ⟨h.blk.parent,h.blk.f',h.blk.hJ,h.blk.work,h.blk.e',my.keep h.blk.hQ ((i9 _ _ _).mono λk _ j=>by have h1:=j.2;show k≠_;omega)⟩,below_setRow h.mx UN _⟩
theorem nM.rules (h:nM r w0 SP SB la lc rc b xa xc w):w.rangeAt w0.heap.size 6 (UW r):=λj v u=>by
 have y:=(a' h.cc).1
 match j with
 |0=>simp at u;subst u;rw [y];rfl
 |1=>simp at u;subst u;rw [y];rfl
 |2=>simp at u;subst u;rw [y];rfl
 |3=>simp at u;subst u;rw [y];rfl
 |4=>simp at u;subst u;rw [y];rfl
 |5=>simp at u;subst u;rw [y];rfl
 |6=>simp at u;subst u;rw [y];rfl
 |7=>simp at u;subst u;rw [y];rfl
 |8=>simp at u;subst u;rw [y];rfl
 |j+9=>simp at u
end
abbrev Gz (SP SB:UO)(n k:Nat):Prop:=((SP k\/SB k)/\k<n)\/n+3<=k
def ov (r:i4)(m:k7)(rc:nL)(b:hV)(la:UP)(lc:Nat)(SP SB:UO)(w:World)(e:Ending)(w':World):Prop:=
 (l' r m b≠0/\e= .returned (.tuple #[.agg (mE false r la lc rc),I0,I0,UZ (l' r m b)])/\BW w w')\/
 (l' r m b=0/\ ∃(j:UP) (u:Nat),e= .returned (.tuple #[.agg #[false,U0,I0,S0,S0,S0,UZ r.mode,UZ r.depth,UZ r.bl,UZ r.bu,UZ r.qu,r.iz,UZ r.win,UZ r.fin,r.work,.slice j (ui r rc b).L.length u,UZ (ui r rc b).lh,UZ (ui r rc b).fin],UZ (tO m b),UZ (tP m b),I0])/\jf.rel (Gz SP SB w.heap.size) w' [.slice j (ui r rc b).L.length u] (ui r rc b).L/\BW w w')
theorem ov.bad {r:i4}{m:k7}{rc:nL}{b:hV}{la:UP}{lc:Nat}{SP SB:UO}{w wr:World}{E:Int}(j:l' r m b=E)(y:E≠0)(u:BW w wr)(cs:Array Value):
 ov r m rc b la lc SP SB w (.returned (.tuple #[.agg (mE false r la lc rc),I0,I0,UZ E])) (wr.setRow (w.heap.size+2) cs):=
 .inl ⟨by rw [j];exact y,by rw [j],below_setRow u UN _⟩
structure Gx (r:i4)(w0:World)(SP SB:UO)(la:UP)(lc:Nat)(rc:nL)(w:World):Prop where
 cc:w.heap[w0.heap.size]? =some (.cells (mE false r la lc rc) 39 (0,0))
 cr:w.heap[w0.heap.size+2]? =some (.cells pn 39 (0,0))
 tK:jf.rel (Gz SP SB w0.heap.size) w [.slice la rc.L.length lc] rc.L
 mx:BW w0 w
section
variable {r:i4} {w0 w w':World} {SP SB:UO} {la:UP} {lc:Nat} {rc oW:nL}
theorem Gx.size (h:Gx r w0 SP SB la lc rc w):w0.heap.size+3<=w.heap.size:=ii h.cr
theorem Gx.c' (h:Gx r w0 SP SB la lc rc w)(j:BW w w'):Gx r w0 SP SB la lc rc w':=
 ⟨b' j h.cc,b' j h.cr,jf.c' h.tK j,h.mx.trans (j.mono (by have:=h.size;omega))⟩
theorem Gx.store (h:Gx r w0 SP SB la lc rc w)(o:Nat)(u:Value)(y:((mE false r la lc rc):Array Value).setIfInBounds o u=(mE false r la lc oW))(j:oW.L=rc.L):Gx r w0 SP SB la lc oW (w.setCell ⟨w0.heap.size,o,none⟩ u):=
 ⟨by rw [<-y];exact h6 h.cc,hB h.cr (by show _≠w0.heap.size;omega),by rw [j];exact jf.keep h.tK ((h9 w _ _ _).mono λk _ z=>by have h1:Gz SP SB w0.heap.size k:=z;show k≠_;rcases h1 with⟨-,h1⟩|h1<;>omega),j4 h.mx (g9 _) _ (by have:=h.size;omega)⟩
end
theorem ov.good {r:i4}{m:k7}{rc R:nL}{b:hV}{la j:UP}{lc y:Nat}{SP SB:UO}{w wr:World}{u a:Int}(V:l' r m b=0)(z:ui r rc b=R)(U:u=tO m b)(G:a=tP m b)(h:Gx r w SP SB j y R wr)(cs:Array Value):
 ov r m rc b la lc SP SB w (.returned (.tuple #[.agg (mE false r j y R),UZ u,UZ a,I0])) (wr.setRow (w.heap.size+2) cs):=by
 subst z U G;exact .inr ⟨V,j,y,rfl,jf.keep h.tK ((i9 _ _ _).mono λk _ K=>by have h1:Gz SP SB w.heap.size k:=K;show k≠_;rcases h1 with⟨-,h1⟩|h1<;>omega),below_setRow h.mx UN _⟩
end Go.Proofs.YtjdiofjjoefnhaaGreatDoor
