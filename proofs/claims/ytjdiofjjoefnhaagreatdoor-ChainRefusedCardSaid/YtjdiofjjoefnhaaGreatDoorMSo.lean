/- slices.Sort of numbers: cmp.Less, insertionSort, partialInsertionSort. Turned from the kit's worked walks at int. -/
import Derived.Sort.WalkA6
import Derived.Sort.WalkB3
import Derived.Sort.WalkC4
import Derived.Sort.Walk11
import Derived.Test.YtjdiofjjoefnhaaGreatDoorSoL
import Derived.Sort.Walk7
import Derived.Sort.Walk13
import Derived.Sort.AssemblyPlain
import Derived.Test.YtjdiofjjoefnhaaGreatDoorMPoB
set_option maxRecDepth 100000
set_option maxHeartbeats 12800000
namespace Go.Proofs.YtjdiofjjoefnhaaGreatDoor
open Tryz Go.Sort Go.RowKit
theorem vO (x:Int)(w:World):Calls prog 289 #[.int .u64 x] w λe w'=>e= .returned (.bool false)/\w'=w:=by
 go_wp2;go_ret;exact⟨US,rfl⟩
theorem hS (x y:Int)(w:World):Calls prog 212 #[.int .u64 x,.int .u64 y] w λe w'=>e= .returned (.bool (Sort.ltInt x y))/\w'=w:=by
 go_in;go_wp2_with (go_at_call 289;refine(vO _ _).mono ?_;rintro e w'⟨rfl,rfl⟩)
 go_ret;exact⟨rfl,rfl⟩
theorem tk (blk off cap a b:Nat)(d:Array Int)(w:World)(K:Holds (Value.int .u64) w blk off d)(aw:a<=b)(az:b<=d.size)(aF:d.size<4611686018427387904):
 Calls prog 206 #[.slice (some ⟨blk,off,none⟩) d.size cap,.int .i64 a,.int .i64 b] w λe w'=>
  e= .returned (.tuple #[])/\ ∃n,w'=putRow (Value.int .u64) (Sort.ahead w n) blk off (Sort.insertionSort ltInt d a b):=by
 go_wp2
 go_loopw [6] (λaf wr=> ∃(i n:Nat) (z:Array Int),af= .int .i64 i/\a<i/\i<=b+1/\z.size=d.size/\wr=putRow (Value.int .u64) (Sort.ahead w n) blk off z/\
  insOuter ltInt a b i z=insOuter ltInt a b (a+1) d) (λaf _=>b+1-(intOf af).toNat)
 case atStart=>exact⟨a+1,0,d,by go_num,UN,UN,rfl,(putRow_self _ _ _ _ _ K).symm,rfl⟩
 case round=>
  obtain⟨i,n,z,rfl,ax,aD,au,aG,ao⟩:=hrel;have ai:Hid (insOuter ltInt a b i z=insOuter ltInt a b (a+1) d):=ao;clear ao;go_wp2
  ·
   go_loopw [7] (λag av=> ∃(j m:Nat) (u:Array Int),ag= .int .i64 j/\a<=j/\j<=i/\u.size=d.size/\av=putRow (Value.int .u64) (Sort.ahead w m) blk off u/\
    insInner ltInt a j u=insInner ltInt a i z) (λag _=>(intOf ag).toNat)
   case atStart=>exact⟨i,n,z,rfl,UN,g9 _,au,rfl,rfl⟩
   case round=>
    obtain⟨j,m,u,rfl,ay,aE,ae,U,al⟩:=hrel;have hlt:i<b:=(by assumption);obtain⟨y,ab⟩: ∃y:Nat->Int,∀t,y t=u[t]! :=⟨λt=>u[t]!,λ_=>rfl⟩;have aA: ∀t,t<d.size->wr.cell? ⟨blk,off+t,none⟩=some (.int .u64 (y t)):=λt ht=>by
     rw [U,ab];exact cell?_putRow _ _ _ _ d u (holds_ahead _ _ _ _ _ _ K) ae t UN
    have aC: ∀t,t<d.size->wr.frozen? ⟨blk,off+t,none⟩=false:=λt ht=>by
     rw [U,frozen?_putRow];exact((holds_ahead _ _ m _ _ _ K) t ht).2
    have aj:Hid (wr=putRow (Value.int .u64) (Sort.ahead w m) blk off u):=U;have G:Hid (∀t,y t=u[t]!):=ab;have ah:Hid (insInner ltInt a j u=insInner ltInt a i z):=al;clear U ab al K
    have out:(j<=a\/ltInt u[j]! u[j-1]! =false)-> ∀q,∃V n' Y,Value.int .i64 ((i:Int)+1)= .int .i64 (V:Nat)/\a<V/\V<=b+1/\Y.size=d.size/\
     wr.drewN q=putRow (Value.int .u64) (Sort.ahead w n') blk off Y/\insOuter ltInt a b V Y=insOuter ltInt a b (a+1) d:=λar q=>
     ⟨i+1,m+q,u,by go_num,UN,UN,ae,by rw [aj.out];exact putRow_drewN _ _ _ _ _ _ _,
      by rw [<-ai.out,insOuter_go _ _ _ _ _ hlt,<-ah.out,insInner_stop _ _ _ _ ar]⟩
    have ak:Hid _:=out;clear out;go_wp2;by_cases aq:a<j
    ·go_quiet (first|(go_at_call 212;refine Tw (hS _ _ _)))
     go_wp2
     ·
      have ad:ltInt (y j) (y (j-1))=true:=(by assumption);go_region
      all_goals go_wp2
      go_roundw
      case rel=>
       refine⟨j-1,m+(nq+1),swp u j (j-1),by congr 1;omega,UN,UN,by rw [size_swp];exact ae,?_,?_⟩
       ·rw [aj.out,G.out,G.out]
        exact swap_worldA _ w m (nq+1) blk off u j (j-1) UN UN
       ·rw [<-ah.out,insInner_go ltInt a j u aq (by rw [<-G.out,<-G.out];exact ad)]
      case measure=>exact UY
     ·
      have ad:ltInt (y j) (y (j-1))=false:=(by assumption);go_roundw
      case rel=>exact ak.out (Or.inr (by rw [<-G.out,<-G.out];exact ad)) nq
      case measure=>exact UY
    ·go_quiet (first|(go_at_call 212;refine Tw (hS _ _ _)))
     go_wp2;go_roundw
     case rel=>exact ak.out (lF UN) nq
     case measure=>exact UY
  ·
   have ap: ¬i<b:=(by assumption);go_end0;exact⟨rfl,n,by unfold Sort.insertionSort;rw [<-ai.out,insOuter_stop _ _ _ _ _ ap]⟩
theorem pz (blk off cap a b:Nat)(d:Array Int)(w:World)(aA:Holds (Value.int .u64) w blk off d)(aQ:a<b)(aU:b<=d.size)(aZ:d.size<4611686018427387904):
 Calls prog 211 #[.slice (some ⟨blk,off,none⟩) d.size cap,.int .i64 a,.int .i64 b] w λe w'=>
  e= .returned (.bool (Sort.partialInsertionSort ltInt d a b).2)/\ ∃n,w'=putRow (Value.int .u64) (Sort.ahead w n) blk off (Sort.partialInsertionSort ltInt d a b).1:=by
 have ak:Hid (Holds (Value.int .u64) w blk off d):=aA;have aL:Hid (w=putRow (Value.int .u64) (Sort.ahead w 0) blk off d):=(putRow_self _ _ _ _ _ aA).symm;clear aA;go_wp2
 go_loopw [7,8] (λav aD wr=> ∃(i s n:Nat) (z:Array Int),av= .int .i64 i/\aD= .int .i64 s/\s<=5/\a<i/\i<=b/\z.size=d.size/\wr=putRow (Value.int .u64) (Sort.ahead w n) blk off z/\
  partialIns ltInt a b (5-s) i z=partialIns ltInt a b 5 (a+1) d) (λ_ aD _=>5-(intOf aD).toNat)
 case atStart=>exact⟨a+1,0,0,d,by go_num,rfl,UN,UN,UN,rfl,aL.out,rfl⟩
 case round=>
  obtain⟨i,s,n,z,rfl,rfl,aY,aT,aM,aK,a0,aF⟩:=hrel;have ag:Hid (partialIns ltInt a b (5-s) i z=partialIns ltInt a b 5 (a+1) d):=aF;clear aF;go_wp2
  ·
   have aj:s<5:=UN;go_loopw [7] (λav ap=> ∃(k m:Nat),av= .int .i64 k/\i<=k/\k<=b/\ap=putRow (Value.int .u64) (Sort.ahead w m) blk off z/\scanSorted ltInt z b k=scanSorted ltInt z b i) (λav _=>b-(intOf av).toNat)
   case atStart=>exact⟨i,n,rfl,g9 _,aM,rfl,rfl⟩
   case round=>
    obtain⟨k,m,rfl,aV,aX,ao,aG⟩:=hrel;obtain⟨u,Y⟩: ∃u:Nat->Int,∀t,u t=z[t]! :=⟨λt=>z[t]!,λ_=>rfl⟩;have aw: ∀t,t<d.size->wr.cell? ⟨blk,off+t,none⟩=some (.int .u64 (u t)):=λt ht=>by
     rw [ao,Y];exact cell?_putRow _ _ _ _ d z (holds_ahead _ _ _ _ _ _ ak.out) aK t UN
    have ax: ∀t,t<d.size->wr.frozen? ⟨blk,off+t,none⟩=false:=λt ht=>by
     rw [ao,frozen?_putRow];exact((holds_ahead _ _ m _ _ _ ak.out) t ht).2
    have G:Hid (wr=putRow (Value.int .u64) (Sort.ahead w m) blk off z):=ao;have U:Hid (∀t,u t=z[t]!):=Y;have az:Hid (scanSorted ltInt z b k=scanSorted ltInt z b i):=aG;clear ao Y aG;go_wp2;by_cases aN:k<b
    ·go_quiet (first|(go_at_call 212;refine Tw (hS _ _ _)))
     go_wp2
     all_goals first
      |(at_end
        have ab:ltInt (u k) (u (k-1))=false:=by
         have h:(!ltInt (u k) (u (k-1)))=true:=(by assumption);simpa using h
        go_roundw
        case rel=>exact⟨k+1,m+nq,by go_num,UN,UN,by rw [G.out];exact putRow_drewN _ _ _ _ _ _ _,by rw [<-az.out,scanSorted_go ltInt z b k aN (by rw [<-U.out,<-U.out];exact ab)]⟩
        case measure=>simp [intOf];omega)
      |(have ab:ltInt (u k) (u (k-1))=true:=by
         have h:(!ltInt (u k) (u (k-1)))=false:=(by assumption);simpa using h
        have al:Hid (scanSorted ltInt z b i=k):=by
         show scanSorted ltInt z b i=k;rw [<-az.out,scanSorted_stop ltInt z b k (Or.inr (by rw [<-U.out,<-U.out];exact ab))]
        first
         |(at_ret
           have au:Sort.partialInsertionSort ltInt d a b=(z,false):=by
            unfold Sort.partialInsertionSort;rw [<-ag.out,pi_short ltInt a b s i z aj (by rw [al.out];omega) UN]
           rw [au];go_ret;exact⟨rfl,m+nq,by rw [G.out];exact putRow_drewN _ _ _ _ _ _ _⟩)
         |(at_region 11
           have aP: ¬b-a<50:=UN;go_region;have aO:((wr.drewN (nq+1)).setCell ⟨blk,off+k,none⟩ (.int .u64 (u (k-1)))).setCell ⟨blk,off+(k-1),none⟩ (.int .u64 (u k))=putRow (Value.int .u64) (Sort.ahead w (m+(nq+1))) blk off (swp z k (k-1)):=by
            rw [G.out,U.out,U.out];exact swap_worldA _ w m (nq+1) blk off z k (k-1) UN UN
           have aC:(swp z k (k-1)).size=d.size:=(by rw [size_swp];exact aK);go_wp2
           all_goals first
            |(at_loop
              have aI:k-a>=2:=by omega
              go_loopw [9] (λad ap=> ∃(j m2:Nat) (K:Array Int),ad= .int .i64 j/\j<=k-1/\K.size=d.size/\ap=putRow (Value.int .u64) (Sort.ahead w m2) blk off K/\
               shiftDown ltInt j K=shiftDown ltInt (k-1) (swp z k (k-1))) (λad _=>(intOf ad).toNat)
              case atStart=>exact⟨k-1,_,(swp z k (k-1)),by congr 1;omega,g9 _,aC,rfl,rfl⟩
              case round=>
               obtain⟨j,m2,K,rfl,aW,ar,ao,aE⟩:=hrel;obtain⟨u,Y⟩: ∃u:Nat->Int,∀t,u t=K[t]! :=⟨λt=>K[t]!,λ_=>rfl⟩;have aw: ∀t,t<d.size->wr.cell? ⟨blk,off+t,none⟩=some (.int .u64 (u t)):=λt ht=>by
                rw [ao,Y];exact cell?_putRow _ _ _ _ d K (holds_ahead _ _ _ _ _ _ ak.out) ar t UN
               have ax: ∀t,t<d.size->wr.frozen? ⟨blk,off+t,none⟩=false:=λt ht=>by
                rw [ao,frozen?_putRow];exact((holds_ahead _ _ m2 _ _ _ ak.out) t ht).2
               have G:Hid (wr=putRow (Value.int .u64) (Sort.ahead w m2) blk off K):=ao;have U:Hid (∀t,u t=K[t]!):=Y;have ay:Hid (shiftDown ltInt j K=shiftDown ltInt (k-1) (swp z k (k-1))):=aE;clear ao Y aE aO;go_wp2
               all_goals first
                |(at_region 16
                  go_quiet (first|(go_at_call 212;refine Tw (hS _ _ _)));go_wp2
                  all_goals first
                   |(at_region 17
                     have ab:ltInt (u j) (u (j-1))=true:=by
                      have h:(!ltInt (u j) (u (j-1)))=false:=(by assumption);simpa using h
                     go_region
                     all_goals go_wp2
                     go_roundw
                     case rel=>
                      refine⟨j-1,m2+(nq+1),swp K j (j-1),by congr 1;omega,UN,by rw [size_swp];exact ar,?_,?_⟩
                      ·rw [G.out,U.out,U.out]
                       exact swap_worldA _ w m2 (nq+1) blk off K j (j-1) UN UN
                      ·rw [<-ay.out,shiftDown_go ltInt j K UN (by rw [<-U.out,<-U.out];exact ab)]
                     case measure=>simp [intOf];omega)
                   |(
                      have ab:ltInt (u j) (u (j-1))=false:=by
                       have h:(!ltInt (u j) (u (j-1)))=true:=(by assumption);simpa using h
                      have ah:Hid (fixDown ltInt a k (swp z k (k-1))=K):=by
                       show fixDown ltInt a k (swp z k (k-1))=K;unfold fixDown;rw [g7 aI,<-ay.out,shiftDown_stop ltInt j K (Or.inr (by rw [<-U.out,<-U.out];exact ab))]
                      first
                       |(at_end
                         go_roundw
                         case rel=>
                          refine⟨k,s+1,_,K,rfl,by go_num,UN,UN,UN,ar,(by first|rfl|exact G.out|(rw [G.out];exact putRow_drewN _ _ _ _ _ _ _)),?_⟩;rw [<-ag.out,pi_go ltInt a b s i k z aj al.out UN UN,ah.out,show fixUp ltInt b k K=K from by unfold fixUp;rw [g3 UN]]
                         case measure=>simp [intOf];omega)
                       |(at_loop
                         go_loopw [10] (λad ap=> ∃(j V:Nat) (y:Array Int),ad= .int .i64 j/\k+1<=j/\j<=b/\y.size=d.size/\ap=putRow (Value.int .u64) (Sort.ahead w V) blk off y/\
                          shiftUp ltInt b j y=shiftUp ltInt b (k+1) K) (λad _=>b-(intOf ad).toNat)
                         case atStart=>exact⟨k+1,_,K,by go_num,g9 _,UN,ar,(by first|rfl|exact G.out|(rw [G.out];exact putRow_drewN _ _ _ _ _ _ _)),rfl⟩
                         case round=>
                          obtain⟨j,V,y,rfl,aJ,aH,ae,af,aq⟩:=hrel;obtain⟨u,Y⟩: ∃u:Nat->Int,∀t,u t=y[t]! :=⟨λt=>y[t]!,λ_=>rfl⟩;have aw: ∀t,t<d.size->wr.cell? ⟨blk,off+t,none⟩=some (.int .u64 (u t)):=λt ht=>by
                           rw [af,Y];exact cell?_putRow _ _ _ _ d y (holds_ahead _ _ _ _ _ _ ak.out) ae t UN
                          have ax: ∀t,t<d.size->wr.frozen? ⟨blk,off+t,none⟩=false:=λt ht=>by
                           rw [af,frozen?_putRow];exact((holds_ahead _ _ V _ _ _ ak.out) t ht).2
                          have G:Hid (wr=putRow (Value.int .u64) (Sort.ahead w V) blk off y):=af;have U:Hid (∀t,u t=y[t]!):=Y;have ai:Hid (shiftUp ltInt b j y=shiftUp ltInt b (k+1) K):=aq;clear af Y aq;go_wp2
                          all_goals first
                           |(at_region 22
                             go_quiet (first|(go_at_call 212;refine Tw (hS _ _ _)));go_wp2
                             all_goals first
                              |(at_region 23
                                have ab:ltInt (u j) (u (j-1))=true:=by
                                 have h:(!ltInt (u j) (u (j-1)))=false:=(by assumption);simpa using h
                                go_region
                                all_goals go_wp2
                                go_roundw
                                case rel=>
                                 refine⟨j+1,V+(nq+1),swp y j (j-1),by go_num,UN,UN,by rw [size_swp];exact ae,?_,?_⟩
                                 ·rw [G.out,U.out,U.out]
                                  exact swap_worldA _ w V (nq+1) blk off y j (j-1) UN UN
                                 ·rw [<-ai.out,shiftUp_go ltInt b j y UN (by rw [<-U.out,<-U.out];exact ab)]
                                case measure=>simp [intOf];omega)
                              |(at_end
                                have ab:ltInt (u j) (u (j-1))=false:=by
                                 have h:(!ltInt (u j) (u (j-1)))=true:=(by assumption);simpa using h
                                go_roundw
                                case rel=>
                                 refine⟨k,s+1,_,y,rfl,by go_num,UN,UN,UN,ae,(by first|rfl|exact G.out|(rw [G.out];exact putRow_drewN _ _ _ _ _ _ _)),?_⟩;rw [<-ag.out,pi_go ltInt a b s i k z aj al.out UN UN,ah.out,show fixUp ltInt b k K=y from by unfold fixUp;rw [g7 UN,<-ai.out,shiftUp_stop ltInt b j y (Or.inr (by rw [<-U.out,<-U.out];exact ab))]]
                                case measure=>simp [intOf];omega))
                           |(at_end
                             go_roundw
                             case rel=>
                              refine⟨k,s+1,_,y,rfl,by go_num,UN,UN,UN,ae,(by first|rfl|exact G.out|(rw [G.out];exact putRow_drewN _ _ _ _ _ _ _)),?_⟩;rw [<-ag.out,pi_go ltInt a b s i k z aj al.out UN UN,ah.out,show fixUp ltInt b k K=y from by unfold fixUp;rw [g7 UN,<-ai.out,shiftUp_stop ltInt b j y (lF UN)]]
                             case measure=>simp [intOf];omega))))
                |(
                   have ah:Hid (fixDown ltInt a k (swp z k (k-1))=K):=by
                    show fixDown ltInt a k (swp z k (k-1))=K;unfold fixDown;rw [g7 aI,<-ay.out,shiftDown_stop ltInt j K (lF UN)]
                   first
                    |(at_end
                      go_roundw
                      case rel=>
                       refine⟨k,s+1,_,K,rfl,by go_num,UN,UN,UN,ar,(by first|rfl|exact G.out|(rw [G.out];exact putRow_drewN _ _ _ _ _ _ _)),?_⟩;rw [<-ag.out,pi_go ltInt a b s i k z aj al.out UN UN,ah.out,show fixUp ltInt b k K=K from by unfold fixUp;rw [g3 UN]]
                      case measure=>simp [intOf];omega)
                    |(at_loop
                      go_loopw [10] (λad ap=> ∃(j V:Nat) (y:Array Int),ad= .int .i64 j/\k+1<=j/\j<=b/\y.size=d.size/\ap=putRow (Value.int .u64) (Sort.ahead w V) blk off y/\
                       shiftUp ltInt b j y=shiftUp ltInt b (k+1) K) (λad _=>b-(intOf ad).toNat)
                      case atStart=>exact⟨k+1,_,K,by go_num,g9 _,UN,ar,(by first|rfl|exact G.out|(rw [G.out];exact putRow_drewN _ _ _ _ _ _ _)),rfl⟩
                      case round=>
                       obtain⟨j,V,y,rfl,aJ,aH,ae,af,aq⟩:=hrel;obtain⟨u,Y⟩: ∃u:Nat->Int,∀t,u t=y[t]! :=⟨λt=>y[t]!,λ_=>rfl⟩;have aw: ∀t,t<d.size->wr.cell? ⟨blk,off+t,none⟩=some (.int .u64 (u t)):=λt ht=>by
                        rw [af,Y];exact cell?_putRow _ _ _ _ d y (holds_ahead _ _ _ _ _ _ ak.out) ae t UN
                       have ax: ∀t,t<d.size->wr.frozen? ⟨blk,off+t,none⟩=false:=λt ht=>by
                        rw [af,frozen?_putRow];exact((holds_ahead _ _ V _ _ _ ak.out) t ht).2
                       have G:Hid (wr=putRow (Value.int .u64) (Sort.ahead w V) blk off y):=af;have U:Hid (∀t,u t=y[t]!):=Y;have ai:Hid (shiftUp ltInt b j y=shiftUp ltInt b (k+1) K):=aq;clear af Y aq;go_wp2
                       all_goals first
                        |(at_region 22
                          go_quiet (first|(go_at_call 212;refine Tw (hS _ _ _)));go_wp2
                          all_goals first
                           |(at_region 23
                             have ab:ltInt (u j) (u (j-1))=true:=by
                              have h:(!ltInt (u j) (u (j-1)))=false:=(by assumption);simpa using h
                             go_region
                             all_goals go_wp2
                             go_roundw
                             case rel=>
                              refine⟨j+1,V+(nq+1),swp y j (j-1),by go_num,UN,UN,by rw [size_swp];exact ae,?_,?_⟩
                              ·rw [G.out,U.out,U.out]
                               exact swap_worldA _ w V (nq+1) blk off y j (j-1) UN UN
                              ·rw [<-ai.out,shiftUp_go ltInt b j y UN (by rw [<-U.out,<-U.out];exact ab)]
                             case measure=>simp [intOf];omega)
                           |(at_end
                             have ab:ltInt (u j) (u (j-1))=false:=by
                              have h:(!ltInt (u j) (u (j-1)))=true:=(by assumption);simpa using h
                             go_roundw
                             case rel=>
                              refine⟨k,s+1,_,y,rfl,by go_num,UN,UN,UN,ae,(by first|rfl|exact G.out|(rw [G.out];exact putRow_drewN _ _ _ _ _ _ _)),?_⟩;rw [<-ag.out,pi_go ltInt a b s i k z aj al.out UN UN,ah.out,show fixUp ltInt b k K=y from by unfold fixUp;rw [g7 UN,<-ai.out,shiftUp_stop ltInt b j y (Or.inr (by rw [<-U.out,<-U.out];exact ab))]]
                             case measure=>simp [intOf];omega))
                        |(at_end
                          go_roundw
                          case rel=>
                           refine⟨k,s+1,_,y,rfl,by go_num,UN,UN,UN,ae,(by first|rfl|exact G.out|(rw [G.out];exact putRow_drewN _ _ _ _ _ _ _)),?_⟩;rw [<-ag.out,pi_go ltInt a b s i k z aj al.out UN UN,ah.out,show fixUp ltInt b k K=y from by unfold fixUp;rw [g7 UN,<-ai.out,shiftUp_stop ltInt b j y (lF UN)]]
                          case measure=>simp [intOf];omega))))
            |(
               have ah:Hid (fixDown ltInt a k (swp z k (k-1))=(swp z k (k-1))):=by
                show fixDown ltInt a k (swp z k (k-1))=(swp z k (k-1));unfold fixDown;rw [g3 UN]
               first
                |(at_end
                  go_roundw
                  case rel=>
                   refine⟨k,s+1,_,(swp z k (k-1)),rfl,by go_num,UN,UN,UN,aC,(by first|rfl|exact G.out|(rw [G.out];exact putRow_drewN _ _ _ _ _ _ _)),?_⟩;rw [<-ag.out,pi_go ltInt a b s i k z aj al.out UN UN,ah.out,show fixUp ltInt b k (swp z k (k-1))=(swp z k (k-1))from by unfold fixUp;rw [g3 UN]]
                  case measure=>simp [intOf];omega)
                |(at_loop
                  go_loopw [10] (λad ap=> ∃(j V:Nat) (y:Array Int),ad= .int .i64 j/\k+1<=j/\j<=b/\y.size=d.size/\ap=putRow (Value.int .u64) (Sort.ahead w V) blk off y/\
                   shiftUp ltInt b j y=shiftUp ltInt b (k+1) (swp z k (k-1))) (λad _=>b-(intOf ad).toNat)
                  case atStart=>exact⟨k+1,_,(swp z k (k-1)),by go_num,g9 _,UN,aC,(by first|rfl|exact G.out|(rw [G.out];exact putRow_drewN _ _ _ _ _ _ _)),rfl⟩
                  case round=>
                   obtain⟨j,V,y,rfl,aJ,aH,ae,af,aq⟩:=hrel;obtain⟨u,Y⟩: ∃u:Nat->Int,∀t,u t=y[t]! :=⟨λt=>y[t]!,λ_=>rfl⟩;have aw: ∀t,t<d.size->wr.cell? ⟨blk,off+t,none⟩=some (.int .u64 (u t)):=λt ht=>by
                    rw [af,Y];exact cell?_putRow _ _ _ _ d y (holds_ahead _ _ _ _ _ _ ak.out) ae t UN
                   have ax: ∀t,t<d.size->wr.frozen? ⟨blk,off+t,none⟩=false:=λt ht=>by
                    rw [af,frozen?_putRow];exact((holds_ahead _ _ V _ _ _ ak.out) t ht).2
                   have G:Hid (wr=putRow (Value.int .u64) (Sort.ahead w V) blk off y):=af;have U:Hid (∀t,u t=y[t]!):=Y;have ai:Hid (shiftUp ltInt b j y=shiftUp ltInt b (k+1) (swp z k (k-1))):=aq;clear af Y aq;go_wp2
                   all_goals first
                    |(at_region 22
                      go_quiet (first|(go_at_call 212;refine Tw (hS _ _ _)));go_wp2
                      all_goals first
                       |(at_region 23
                         have ab:ltInt (u j) (u (j-1))=true:=by
                          have h:(!ltInt (u j) (u (j-1)))=false:=(by assumption);simpa using h
                         go_region
                         all_goals go_wp2
                         go_roundw
                         case rel=>
                          refine⟨j+1,V+(nq+1),swp y j (j-1),by go_num,UN,UN,by rw [size_swp];exact ae,?_,?_⟩
                          ·rw [G.out,U.out,U.out]
                           exact swap_worldA _ w V (nq+1) blk off y j (j-1) UN UN
                          ·rw [<-ai.out,shiftUp_go ltInt b j y UN (by rw [<-U.out,<-U.out];exact ab)]
                         case measure=>simp [intOf];omega)
                       |(at_end
                         have ab:ltInt (u j) (u (j-1))=false:=by
                          have h:(!ltInt (u j) (u (j-1)))=true:=(by assumption);simpa using h
                         go_roundw
                         case rel=>
                          refine⟨k,s+1,_,y,rfl,by go_num,UN,UN,UN,ae,(by first|rfl|exact G.out|(rw [G.out];exact putRow_drewN _ _ _ _ _ _ _)),?_⟩;rw [<-ag.out,pi_go ltInt a b s i k z aj al.out UN UN,ah.out,show fixUp ltInt b k (swp z k (k-1))=y from by unfold fixUp;rw [g7 UN,<-ai.out,shiftUp_stop ltInt b j y (Or.inr (by rw [<-U.out,<-U.out];exact ab))]]
                         case measure=>simp [intOf];omega))
                    |(at_end
                      go_roundw
                      case rel=>
                       refine⟨k,s+1,_,y,rfl,by go_num,UN,UN,UN,ae,(by first|rfl|exact G.out|(rw [G.out];exact putRow_drewN _ _ _ _ _ _ _)),?_⟩;rw [<-ag.out,pi_go ltInt a b s i k z aj al.out UN UN,ah.out,show fixUp ltInt b k (swp z k (k-1))=y from by unfold fixUp;rw [g7 UN,<-ai.out,shiftUp_stop ltInt b j y (lF UN)]]
                      case measure=>simp [intOf];omega)))))
    ·
     go_quiet (first|(go_at_call 212;refine Tw (hS _ _ _)));go_wp2;obtain rfl:k=b:=UN;have au:Sort.partialInsertionSort ltInt d a k=(z,true):=by
      unfold Sort.partialInsertionSort;rw [<-ag.out,pi_true ltInt a k s i z aj (by rw [<-az.out,scanSorted_stop ltInt z k k (lF UN)])]
     rw [au];go_ret;exact⟨rfl,m+nq,by rw [G.out];exact putRow_drewN _ _ _ _ _ _ _⟩
  ·
   obtain rfl:s=5:=UN;have au:Sort.partialInsertionSort ltInt d a b=(z,false):=by
    unfold Sort.partialInsertionSort;rw [<-ag.out,pi_end]
   rw [au];go_ret;exact⟨rfl,n,rfl⟩
abbrev jz:Int->Value:=λx=>Value.int .u64 x
theorem tB (blk off cap:Nat)(d:Array Int)(a b:Nat)(w:World)(z:Holds jz w blk off d)(ah:a<=b)(ai:b<=d.size)(al:d.size<4611686018427387904):
 Calls prog 210 #[.slice (some ⟨blk,off,none⟩) d.size cap,.int .i64 a,.int .i64 b] w λe w'=>e= .returned (.tuple #[])/\ ∃n,w'=putRow jz (Sort.ahead w n) blk off (reverseRange d a b):=by
 go_wp2
 go_loopg [6,7] (b-a) (λk ab ad wr=> ∃(i j:Nat) (y:Int) (u:Array Int) (n:Nat),ab= .int .i64 i/\ad= .int .i64 y/\((i:Int)<y->y=j/\j<d.size)/\(¬(i:Int)<y-> ¬i<j)/\j-i<=k/\
  u.size=d.size/\wr=putRow jz (Sort.ahead w n) blk off u/\reverseLoop i j u=reverseLoop a (b-1) d)
 case atStart=>exact⟨a,b-1,(b:Int)-1,d,0,rfl,rfl,λh=>⟨UN,UN⟩,λh=>UN,UN,rfl,(putRow_self jz w blk off d z).symm,rfl⟩
 case round=>
  obtain⟨i,j,y,u,n,rfl,rfl,h1,h2,ak,U,K,heq⟩:=hrel;by_cases hlt:(i:Int)<y
  ·obtain⟨rfl,aj⟩:=h1 hlt
   have V:i<j:=UN;have G:Holds jz wr blk off u:=(by rw [K];exact holds_putRow jz _ blk off d u (holds_ahead jz w n blk off d z) U);obtain⟨ci,af⟩:=G i UN;obtain⟨ae,ag⟩:=G j UN;have A:Aside (wr=putRow jz (Sort.ahead w n) blk off u):=K;clear K G z h1 h2;go_wp2;go_region;go_wp2;go_roundg (j-1-(i+1))
   case measure=>omega
   case rel=>
    rw [reverseLoop,g7 V]at heq
    exact⟨i+1,j-1,(j:Int)-1,swp u i j,n+1,US,rfl,λh=>⟨UN,UN⟩,λh=>UN,g9 _,by rw [size_swp];exact U,
     swap_world jz UN UN A.out (by simp [jz,getElem!_pos,show j<u.size by omega]) rfl,heq⟩
  ·have Y:=h2 hlt
   go_wp2;go_end0;refine⟨rfl,n,?_⟩;rw [reverseLoop,g3 Y]at heq;rw [reverseRange,<-heq]
theorem o7 (blk off len cap:Nat)(d:Array Int)(ar:d.size=len)(lo hi first:Nat)(w:World)(ai:Holds jz w blk off d)(au:lo<=hi)(aw:first+hi<=d.size)(ay:d.size<4611686018427387904):
 Calls prog 284 #[.slice (some ⟨blk,off,none⟩) len cap,.int .i64 lo,.int .i64 hi,.int .i64 first] w λe w'=>e= .returned (.tuple #[])/\ ∃n,w'=putRow jz (Sort.ahead w n) blk off (siftDown ltInt hi first lo d):=by
 subst ar;go_wp2;go_loopg [8] (hi-lo) (λk av wr=> ∃(root:Nat) (j:Array Int) (n:Nat),av= .int .i64 root/\root<=hi/\hi-root<=k/\j.size=d.size/\wr=putRow jz (Sort.ahead w n) blk off j/\siftDown ltInt hi first root j=siftDown ltInt hi first lo d)
 case atStart=>exact⟨lo,d,0,rfl,au,g9 _,rfl,(putRow_self jz w blk off d ai).symm,rfl⟩
 case round=>
  obtain⟨root,j,n,rfl,hr,ax,ah,ak,heq⟩:=hrel;have aj:Holds jz wr blk off j:=(by rw [ak];exact holds_putRow jz _ blk off d j (holds_ahead jz w n blk off d ai) ah);have V: ∀t,t<d.size->wr.cell? ⟨blk,off+t,none⟩=some (.int .u64 j[t]!):=λt ht=>(aj t UN).1;have Y: ∀t,t<d.size->wr.frozen? ⟨blk,off+t,none⟩=false:=λt ht=>(aj t UN).2;have A:Aside (wr=putRow jz (Sort.ahead w n) blk off j):=ak;clear ak ai aj;by_cases ao:hi<=2*root+1
  ·
   have ap:(hi:Int)<=2*(root:Int)+1:=UN;go_wp2;go_end0;refine⟨rfl,n,?_⟩;rw [A.out,<-heq,sd_end ltInt j ao]
  ·
   have ap: ¬((hi:Int)<=2*(root:Int)+1):=UN;by_cases h1:2*root+2<hi
   ·have aq:2*(root:Int)+1+1<(hi:Int):=UN
    go_wp2_with fail;go_big_quiet (first|(go_at_call 212;refine Tw (hS _ _ _)));go_wp2_with fail
    ·
     have ad:ltInt j[first+2*root+1]! j[first+2*root+2]! =true:=by assumption
     revert nq;intro u
     have G: ∀t,t<d.size->(wr.drewN u).cell? ⟨blk,off+t,none⟩=some (.int .u64 j[t]!):=V;have K: ∀t,t<d.size->(wr.drewN u).frozen? ⟨blk,off+t,none⟩=false:=Y;have y:Aside (wr.drewN u=putRow jz (Sort.ahead w (n+u)) blk off j):=drewN_world jz A.out u;clear V Y A;generalize wr.drewN u=z at G K y⊢;go_big_quiet (first|(go_at_call 212;refine Tw (hS _ _ _)));go_wp2_with fail
     ·
      have ae:ltInt j[first+root]! j[first+2*root+2]! =false:=by
       have:(!ltInt j[first+root]! j[first+2*root+2]!)=true:=(by assumption);simpa using this
      (try simp only [Exit.inBlock,Exit.then]);refine iQ (TY rfl _ _ _) rfl ?_
      refine⟨rfl,n+u+nq,?_⟩;rw [drewN_world jz y.out nq,<-heq,sd_right_stop ltInt j h1 ad ae]
     ·
      have ab:ltInt j[first+root]! j[first+2*root+2]! =true:=by
       have:(!ltInt j[first+root]! j[first+2*root+2]!)=false:=(by assumption);simpa using this
      have af: ∀t,t<d.size->(z.drewN nq).cell? ⟨blk,off+t,none⟩=some (.int .u64 j[t]!):=G;have ag: ∀t,t<d.size->(z.drewN nq).frozen? ⟨blk,off+t,none⟩=false:=K;have U:Aside (z.drewN nq=putRow jz (Sort.ahead w (n+u+nq)) blk off j):=drewN_world jz y.out nq;clear G K y;generalize z.drewN nq=al at af ag U⊢;go_region;go_wp2;go_roundg (hi-(2*root+2))
      case measure=>omega
      case rel=>
       refine⟨2*root+2,swp j (first+root) (first+(2*root+1+1)),n+u+nq+1,by simp<;>omega,UN,g9 _,by rw [size_swp];exact ah,swap_world jz UN UN U.out rfl rfl,?_⟩;rw [<-heq,sd_right_go ltInt j h1 ad ab]
    ·
     have ad:ltInt j[first+2*root+1]! j[first+2*root+2]! =false:=by assumption
     revert nq;intro u
     have G: ∀t,t<d.size->(wr.drewN u).cell? ⟨blk,off+t,none⟩=some (.int .u64 j[t]!):=V;have K: ∀t,t<d.size->(wr.drewN u).frozen? ⟨blk,off+t,none⟩=false:=Y;have y:Aside (wr.drewN u=putRow jz (Sort.ahead w (n+u)) blk off j):=drewN_world jz A.out u;clear V Y A;generalize wr.drewN u=z at G K y⊢;go_big_quiet (first|(go_at_call 212;refine Tw (hS _ _ _)));go_wp2_with fail
     ·
      have ae:ltInt j[first+root]! j[first+2*root+1]! =false:=by
       have:(!ltInt j[first+root]! j[first+2*root+1]!)=true:=(by assumption);simpa using this
      (try simp only [Exit.inBlock,Exit.then]);refine iQ (TY rfl _ _ _) rfl ?_
      refine⟨rfl,n+u+nq,?_⟩;rw [drewN_world jz y.out nq,<-heq,sd_left_stop ltInt j UN (λ_=>ad) ae]
     ·
      have ab:ltInt j[first+root]! j[first+2*root+1]! =true:=by
       have:(!ltInt j[first+root]! j[first+2*root+1]!)=false:=(by assumption);simpa using this
      have af: ∀t,t<d.size->(z.drewN nq).cell? ⟨blk,off+t,none⟩=some (.int .u64 j[t]!):=G;have ag: ∀t,t<d.size->(z.drewN nq).frozen? ⟨blk,off+t,none⟩=false:=K;have U:Aside (z.drewN nq=putRow jz (Sort.ahead w (n+u+nq)) blk off j):=drewN_world jz y.out nq;clear G K y;generalize z.drewN nq=al at af ag U⊢;go_region;go_wp2;go_roundg (hi-(2*root+1))
      case measure=>omega
      case rel=>
       refine⟨2*root+1,swp j (first+root) (first+(2*root+1)),n+u+nq+1,by simp<;>omega,UN,g9 _,by rw [size_swp];exact ah,swap_world jz UN UN U.out rfl rfl,?_⟩;rw [<-heq,sd_left_go ltInt j UN (λ_=>ad) ab]
   ·
    have aq:decide (2*(root:Int)+1+1<(hi:Int))=false:=iH UN;go_wp2_with fail;go_big_quiet (first|(go_at_call 212;refine Tw (hS _ _ _)));go_wp2_with fail
    revert nq;intro u
    have G: ∀t,t<d.size->(wr.drewN u).cell? ⟨blk,off+t,none⟩=some (.int .u64 j[t]!):=V;have K: ∀t,t<d.size->(wr.drewN u).frozen? ⟨blk,off+t,none⟩=false:=Y;have y:Aside (wr.drewN u=putRow jz (Sort.ahead w (n+u)) blk off j):=drewN_world jz A.out u;clear V Y A;generalize wr.drewN u=z at G K y⊢;go_big_quiet (first|(go_at_call 212;refine Tw (hS _ _ _)));go_wp2_with fail
    ·
     have ae:ltInt j[first+root]! j[first+2*root+1]! =false:=by
      have:(!ltInt j[first+root]! j[first+2*root+1]!)=true:=(by assumption);simpa using this
     (try simp only [Exit.inBlock,Exit.then]);refine iQ (TY rfl _ _ _) rfl ?_
     refine⟨rfl,n+u+nq,?_⟩;rw [drewN_world jz y.out nq,<-heq,sd_left_stop ltInt j UN (λh=>absurd h h1) ae]
    ·
     have ab:ltInt j[first+root]! j[first+2*root+1]! =true:=by
      have:(!ltInt j[first+root]! j[first+2*root+1]!)=false:=(by assumption);simpa using this
     have af: ∀t,t<d.size->(z.drewN nq).cell? ⟨blk,off+t,none⟩=some (.int .u64 j[t]!):=G;have ag: ∀t,t<d.size->(z.drewN nq).frozen? ⟨blk,off+t,none⟩=false:=K;have U:Aside (z.drewN nq=putRow jz (Sort.ahead w (n+u+nq)) blk off j):=drewN_world jz y.out nq;clear G K y;generalize z.drewN nq=al at af ag U⊢;go_region;go_wp2;go_roundg (hi-(2*root+1))
     case measure=>omega
     case rel=>
      refine⟨2*root+1,swp j (first+root) (first+(2*root+1)),n+u+nq+1,by simp<;>omega,UN,g9 _,by rw [size_swp];exact ah,swap_world jz UN UN U.out rfl rfl,?_⟩;rw [<-heq,sd_left_go ltInt j UN (λh=>absurd h h1) ab]
theorem xd (blk off len cap:Nat)(d:Array Int)(ak:d.size=len)(a b:Nat)(w:World)(G:Holds jz w blk off d)(ai:a<=b)(aq:b<=d.size)(aw:d.size<4611686018427387904):
 Calls prog 207 #[.slice (some ⟨blk,off,none⟩) len cap,.int .i64 a,.int .i64 b] w λe w'=>e= .returned (.tuple #[])/\ ∃n,w'=putRow jz (Sort.ahead w n) blk off (heapSort ltInt d a b):=by
 subst ak;have ecast:((b-a:Nat):Int)=(b:Int)-(a:Int):=UN
 go_wp2
 go_loopg [9] ((b-a-1) / 2+1) (λk ao wr=>ao= .int .i64 ((k:Int)-1)/\k<=(b-a-1) / 2+1/\ ∃(y:Array Int) (n:Nat),y.size=d.size/\wr=putRow jz (Sort.ahead w n) blk off y/\
  heapBuild ltInt (b-a) a k y=heapBuild ltInt (b-a) a ((b-a-1) / 2+1) d)
 case atStart=>exact⟨by rw [half_start ai],g9 _,d,0,rfl,(putRow_self jz w blk off d G).symm,rfl⟩
 case round=>
  obtain⟨rfl,ag,y,n,K,ab,heq⟩:=hrel;have af:Holds jz wr blk off y:=(by rw [ab];exact holds_putRow jz _ blk off d y (holds_ahead jz w n blk off d G) K);have A:Aside (wr=putRow jz (Sort.ahead w n) blk off y):=ab;clear ab
  cases gk with
  |zero=>
   have ah:y=heapBuild ltInt (b-a) a ((b-a-1) / 2+1) d:=heq;clear heq af ag;go_wp2;go_loopg [10] (b-a) (λk al ap=>al= .int .i64 ((k:Int)-1)/\k<=b-a/\ ∃(u:Array Int) (n2:Nat),u.size=d.size/\ap=putRow jz (Sort.ahead w n2) blk off u/\heapPop ltInt a k u=heapPop ltInt a (b-a) y)
   case atStart=>exact⟨by rw [ecast],g9 _,y,n,K,A.out,rfl⟩
   case round=>
    obtain⟨rfl,ag,u,n2,z,ad,Y⟩:=hrel
    cases gk with
    |zero=>
     go_wp2;go_end0;refine⟨rfl,n2,?_⟩;have e:u=heapSort ltInt d a b:=(by rw [heapSort,<-ah,<-Y];rfl);rw [<-e]
    |succ k=>
     have V:Holds jz wr blk off u:=(by rw [ad];exact holds_putRow jz _ blk off d u (holds_ahead jz w n2 blk off d G) z);have ar: ∀t,t<d.size->wr.cell? ⟨blk,off+t,none⟩=some (.int .u64 u[t]!):=λt ht=>(V t UN).1;have au: ∀t,t<d.size->wr.frozen? ⟨blk,off+t,none⟩=false:=λt ht=>(V t UN).2;have ae:Aside (wr=putRow jz (Sort.ahead w n2) blk off u):=ad;clear ad V;rcases vU k with aj|av
     ·subst aj
      go_wp2;go_region;go_wp2_with fail;rw [swap_world jz (i:=a) (j:=a) UN UN ae.out rfl rfl];refine(o7 blk off d.size cap (swp u a (a)) (by rw [size_swp];exact z) 0 0 a _ (holds_putRow jz _ blk off d _ (holds_ahead jz w (n2+1) blk off d G) (by rw [size_swp];exact z)) (iy _) (by rw [size_swp];omega) (by rw [size_swp];omega)).mono ?_;rintro e w1⟨rfl,m,U⟩;go_wp2;go_roundg 0
      case measure=>omega
      case rel=>
       refine⟨US,UN,siftDown ltInt 0 a 0 (swp u a (a)),n2+1+m,by rw [size_siftDown ltInt _ _ _ _ _ (g9 _),size_swp];exact z,?_,Y⟩
       first
        |rw [U,putRow_ahead_putRow jz w (n2+1) m blk off _ _ (size_siftDown ltInt _ _ _ _ _ (g9 _))]
        |rw [putRow_ahead_putRow jz w (n2+1) m blk off _ _ (size_siftDown ltInt _ _ _ _ _ (g9 _))]
     ·skip
      go_wp2;go_region;go_wp2_with fail;rw [swap_world jz (i:=a) (j:=a+k) UN UN ae.out rfl rfl];refine(o7 blk off d.size cap (swp u a (a+k)) (by rw [size_swp];exact z) 0 k a _ (holds_putRow jz _ blk off d _ (holds_ahead jz w (n2+1) blk off d G) (by rw [size_swp];exact z)) (iy _) (by rw [size_swp];omega) (by rw [size_swp];omega)).mono ?_;rintro e w1⟨rfl,m,U⟩;go_wp2;go_roundg k
      case measure=>omega
      case rel=>
       refine⟨US,UN,siftDown ltInt k a 0 (swp u a (a+k)),n2+1+m,by rw [size_siftDown ltInt _ _ _ _ _ (g9 _),size_swp];exact z,?_,Y⟩
       first
        |rw [U,putRow_ahead_putRow jz w (n2+1) m blk off _ _ (size_siftDown ltInt _ _ _ _ _ (g9 _))]
        |rw [putRow_ahead_putRow jz w (n2+1) m blk off _ _ (size_siftDown ltInt _ _ _ _ _ (g9 _))]
  |succ k=>
   have hcall:=o7 blk off d.size cap y K k (b-a) a wr af UN UN UN;rw [ecast]at hcall;go_wp2_with (go_at_call 284;refine hcall.mono ?_;rintro e w1⟨rfl,m,U⟩)
   go_roundg k
   case measure=>omega
   case rel=>
    refine⟨US,UN,siftDown ltInt (b-a) a k y,n+m,by rw [size_siftDown ltInt _ _ _ _ _ (g9 _)];exact K,?_,heq⟩;rw [A.out,putRow_ahead_putRow jz w n m blk off y _ (size_siftDown ltInt _ _ _ _ _ (g9 _))]
theorem sa (blk off cap a b pivot:Nat)(d:Array Int)(w:World)(hH:Holds (Value.int .u64) w blk off d)(hap:a<=pivot)(hpb:pivot<b)(hb:b<=d.size)(hsz:d.size<4611686018427387904):
 Calls prog 213 #[.slice (some ⟨blk,off,none⟩) d.size cap,.int .i64 a,.int .i64 b,.int .i64 pivot] w λe w'=>
  e= .returned (.int .i64 (Sort.partitionEqual Sort.ltInt d a b pivot).1)/\ ∃n,w'=(putRow (Value.int .u64) w blk off (Sort.partitionEqual Sort.ltInt d a b pivot).2).drewN n:=by
 have hla:a<d.size:=UN
 have hlp:pivot<d.size:=UN
 obtain⟨G,hG⟩: ∃G:Nat->Int,∀j,G j=d[j]! :=⟨λj=>d[j]!,λ_=>rfl⟩;have ca:w.cell? ⟨blk,off+a,none⟩=some (.int .u64 (G a)):=by rw [hG];exact(hH a hla).1
 have fa:=(hH a hla).2;have cp:w.cell? ⟨blk,off+pivot,none⟩=some (.int .u64 (G pivot)):=by rw [hG];exact(hH pivot hlp).1
 have fp:=(hH pivot hlp).2;obtain⟨v',hy'⟩:=Uh (w:=w) (p:=⟨blk,off+a,none⟩) (x:= .int .u64 (G pivot)) (q:=⟨blk,off+pivot,none⟩) cp;have AG:Hid (∀j,G j=d[j]!):=hG;have AH:Hid (Holds (Value.int .u64) w blk off d):=hH;clear hG hH;go_wp2;go_region;go_wp2
 go_loopw [9,10] (λvi vj wr=> ∃(i j n:Nat) (dk:Array Int),vi= .int .i64 i/\vj= .int .i64 j/\a<i/\i<=j+1/\j<b/\dk.size=d.size/\wr=(putRow (Value.int .u64) w blk off dk).drewN n/\
  Sort.partEqLoop Sort.ltInt a i j dk=Sort.partEqLoop Sort.ltInt a (a+1) (b-1) (Sort.swp d a pivot))
  (λvi vj _=>(intOf vj).toNat+1-(intOf vi).toNat)
 case atStart=>
  refine⟨a+1,b-1,1,Sort.swp d a pivot,by go_num,by go_num,UN,UN,UN,size_swp _ _ _,?_,rfl⟩;have e:=swap_worldC (Value.int .u64) w blk off d 0 a pivot hla hlp;rw [putRow_self _ w blk off d AH.out]at e;rw [AG.out a,AG.out pivot];exact e
 case round=>
  obtain⟨i,j,n,dk,rfl,rfl,hai,hij,hjb,hs,hw,heq⟩:=hrel;clear ca fa cp fp hy' v' AG
  rename World=>W1
  have hHk:Holds (Value.int .u64) W1 blk off dk:=by
   rw [hw];exact holds_putRow (Value.int .u64) w blk off d dk AH.out hs
  obtain⟨Gk,hG⟩: ∃Gk:Nat->Int,∀t,Gk t=dk[t]! :=⟨λt=>dk[t]!,λ_=>rfl⟩;have hc: ∀t,t<d.size->W1.cell? ⟨blk,off+t,none⟩=some (.int .u64 (Gk t)):=λt ht=>(by rw [hG];exact(hHk t UN).1);have hf: ∀t,t<d.size->W1.frozen? ⟨blk,off+t,none⟩=false:=λt ht=>(hHk t UN).2;have AG:Hid (∀t,Gk t=dk[t]!):=hG;have AW:Hid (W1=(putRow (Value.int .u64) w blk off dk).drewN n):=hw;have AE:Hid (Sort.partEqLoop Sort.ltInt a i j dk=Sort.partEqLoop Sort.ltInt a (a+1) (b-1) (Sort.swp d a pivot)):=heq;clear hG hw heq hHk;go_wp2
  go_loopw [9] (λvi w1=> ∃(i' n1:Nat),vi= .int .i64 i'/\i<=i'/\i'<=j+1/\w1=W1.drewN n1/\
   Hid (Sort.scanUp (λx=> !Sort.ltInt dk[a]! x) dk j i'=Sort.scanUp (λx=> !Sort.ltInt dk[a]! x) dk j i))
   (λvi _=>j+1-(intOf vi).toNat)
  case atStart=>exact⟨i,0,rfl,g9 _,hij,rfl,rfl⟩
  case round=>
   obtain⟨i',n1,rfl,hii,hij',hw1,hsc⟩:=hrel;have hcw: ∀t,t<d.size->wr.cell? ⟨blk,off+t,none⟩=some (.int .u64 (Gk t)):=λt ht=>(by rw [hw1];exact hc t ht);have HW1:Hid (wr=W1.drewN n1):=hw1;clear hw1;by_cases hle:i'<=j
   ·go_wp2_with fail
    go_big_quiet (first|(go_at_call 212;refine Tw (hS _ _ _)));go_wp2
    ·
     have ht:(!Sort.ltInt (Gk a) (Gk i'))=true:=(by assumption);go_roundw
     case rel=>exact⟨i'+1,n1+nq,by go_num,UN,UN,by rw [HW1.out,Tv],(scanUp_go (λx=> !Sort.ltInt dk[a]! x) dk j i' hle (by rw [<-AG.out a,<-AG.out i'];exact ht)).symm.trans hsc.out⟩
     case measure=>exact UY
    ·
     have ht:(!Sort.ltInt (Gk a) (Gk i'))=false:=(by assumption);have hi2:Hid (i'=Sort.scanUp (λx=> !Sort.ltInt dk[a]! x) dk j i):=(scanUp_end (λx=> !Sort.ltInt dk[a]! x) dk j i' (Or.inr (by rw [<-AG.out a,<-AG.out i'];exact ht))).symm.trans hsc.out;clear ht;have hw2:wr.drewN nq=W1.drewN (n1+nq):=(by rw [HW1.out,Tv]);clear hcw HW1 hsc
     go_loopw [10] (λvj w2=> ∃(j' n2:Nat),vj= .int .i64 j'/\j'<=j/\i'<=j'+1/\w2=W1.drewN n2/\
      Hid (Sort.scanDown (λx=>Sort.ltInt dk[a]! x) dk i' j'=Sort.scanDown (λx=>Sort.ltInt dk[a]! x) dk i' j))
      (λvj _=>(intOf vj).toNat)
     case atStart=>exact⟨j,n1+nq,rfl,g9 _,hij',hw2,rfl⟩
     case round=>
      clear hw2;obtain⟨j',n2,rfl,hjj,hij2,hw2,hsd⟩:=hrel;have hcw: ∀t,t<d.size->wr.cell? ⟨blk,off+t,none⟩=some (.int .u64 (Gk t)):=λt ht=>(by rw [hw2];exact hc t ht);have HW2:Hid (wr=W1.drewN n2):=hw2;clear hw2;by_cases hle2:i'<=j'
      ·go_wp2_with fail
       go_big_quiet (first|(go_at_call 212;refine Tw (hS _ _ _)));go_wp2
       ·
        have ht:Sort.ltInt (Gk a) (Gk j')=true:=(by assumption);go_roundw
        case rel=>exact⟨j'-1,n2+nq,by go_num,UN,UN,by rw [HW2.out,Tv],(scanDown_go (λx=>Sort.ltInt dk[a]! x) dk i' j' hle2 UN (by rw [<-AG.out a,<-AG.out j'];exact ht)).symm.trans hsd.out⟩
        case measure=>exact UY
       ·
        have ht:Sort.ltInt (Gk a) (Gk j')=false:=(by assumption);have hj2:Hid (j'=Sort.scanDown (λx=>Sort.ltInt dk[a]! x) dk i' j):=(scanDown_end (λx=>Sort.ltInt dk[a]! x) dk i' j' (Or.inr (by rw [<-AG.out a,<-AG.out j'];exact ht))).symm.trans hsd.out;clear hcw hsd ht;have hw3:wr.drewN nq=W1.drewN (n2+nq):=(by rw [HW2.out,Tv]);generalize wr.drewN nq=W3 at hw3⊢;have hc3: ∀t,t<d.size->W3.cell? ⟨blk,off+t,none⟩=some (.int .u64 (Gk t)):=λt ht=>(by rw [hw3];exact hc t ht);have hf3: ∀t,t<d.size->W3.frozen? ⟨blk,off+t,none⟩=false:=λt ht=>(by rw [hw3];exact hf t ht);have HW3:Hid (W3=W1.drewN (n2+nq)):=hw3;clear hw3;obtain⟨v3,hy3⟩:=Uh (w:=W3) (p:=⟨blk,off+i',none⟩) (x:= .int .u64 (Gk j')) (q:=⟨blk,off+j',none⟩) (hc3 j' UN);have hlt3:=scans_lt Sort.ltInt a i j dk UN hi2.out hj2.out hle2;go_wp2;go_region
        all_goals go_wp2
        all_goals go_roundw
        case rel=>
         refine⟨i'+1,j'-1,n+(n2+nq)+1,Sort.swp dk i' j',by go_num,by go_num,UN,UN,UN,by rw [size_swp];exact hs,?_,?_⟩
         ·rw [HW3.out,AW.out,Tv,AG.out i',AG.out j']
          exact swap_worldC (Value.int .u64) w blk off dk _ i' j' UN UN
         ·rw [<-AE.out];exact(partEq_go Sort.ltInt a i j dk hi2.out hj2.out UN).symm
        case measure=>exact UY
      ·go_wp2_with fail
       go_big_quiet (first|(go_at_call 212;refine Tw (hS _ _ _)));have hj2:Hid (j'=Sort.scanDown (λx=>Sort.ltInt dk[a]! x) dk i' j):=(scanDown_end (λx=>Sort.ltInt dk[a]! x) dk i' j' (lF hle2)).symm.trans hsd.out;clear hcw hsd;have hw3:wr.drewN nq=W1.drewN (n2+nq):=(by rw [HW2.out,Tv]);generalize wr.drewN nq=W3 at hw3⊢;have hc3: ∀t,t<d.size->W3.cell? ⟨blk,off+t,none⟩=some (.int .u64 (Gk t)):=λt ht=>(by rw [hw3];exact hc t ht);have hf3: ∀t,t<d.size->W3.frozen? ⟨blk,off+t,none⟩=false:=λt ht=>(by rw [hw3];exact hf t ht);have HW3:Hid (W3=W1.drewN (n2+nq)):=hw3;clear hw3;go_wp2;go_ret;have e:=partEq_break Sort.ltInt a i j dk hi2.out hj2.out UN;refine⟨?_,n+(n2+nq),?_⟩
       ·unfold Sort.partitionEqual;rw [<-AE.out,e];rfl
       ·unfold Sort.partitionEqual;rw [<-AE.out,e,HW3.out,AW.out,Tv]
   ·go_wp2_with fail
    go_big_quiet (first|(go_at_call 212;refine Tw (hS _ _ _)));go_wp2;have hi2:Hid (i'=Sort.scanUp (λx=> !Sort.ltInt dk[a]! x) dk j i):=(scanUp_end (λx=> !Sort.ltInt dk[a]! x) dk j i' (lF hle)).symm.trans hsc.out;have hw2:wr.drewN nq=W1.drewN (n1+nq):=(by rw [HW1.out,Tv]);clear hcw HW1 hsc
    go_loopw [10] (λvj w2=> ∃(j' n2:Nat),vj= .int .i64 j'/\j'<=j/\i'<=j'+1/\w2=W1.drewN n2/\
     Hid (Sort.scanDown (λx=>Sort.ltInt dk[a]! x) dk i' j'=Sort.scanDown (λx=>Sort.ltInt dk[a]! x) dk i' j))
     (λvj _=>(intOf vj).toNat)
    case atStart=>exact⟨j,n1+nq,rfl,g9 _,hij',hw2,rfl⟩
    case round=>
     clear hw2;obtain⟨j',n2,rfl,hjj,hij2,hw2,hsd⟩:=hrel;have hcw: ∀t,t<d.size->wr.cell? ⟨blk,off+t,none⟩=some (.int .u64 (Gk t)):=λt ht=>(by rw [hw2];exact hc t ht);have HW2:Hid (wr=W1.drewN n2):=hw2;clear hw2;by_cases hle2:i'<=j'
     ·exfalso;omega
     ·go_wp2_with fail
      go_big_quiet (first|(go_at_call 212;refine Tw (hS _ _ _)));have hj2:Hid (j'=Sort.scanDown (λx=>Sort.ltInt dk[a]! x) dk i' j):=(scanDown_end (λx=>Sort.ltInt dk[a]! x) dk i' j' (lF hle2)).symm.trans hsd.out;clear hcw hsd;have hw3:wr.drewN nq=W1.drewN (n2+nq):=(by rw [HW2.out,Tv]);generalize wr.drewN nq=W3 at hw3⊢;have hc3: ∀t,t<d.size->W3.cell? ⟨blk,off+t,none⟩=some (.int .u64 (Gk t)):=λt ht=>(by rw [hw3];exact hc t ht);have hf3: ∀t,t<d.size->W3.frozen? ⟨blk,off+t,none⟩=false:=λt ht=>(by rw [hw3];exact hf t ht);have HW3:Hid (W3=W1.drewN (n2+nq)):=hw3;clear hw3;go_wp2;go_ret;have e:=partEq_break Sort.ltInt a i j dk hi2.out hj2.out UN;refine⟨?_,n+(n2+nq),?_⟩
      ·unfold Sort.partitionEqual;rw [<-AE.out,e];rfl
      ·unfold Sort.partitionEqual;rw [<-AE.out,e,HW3.out,AW.out,Tv]
theorem o8 (blk off cap a b pivot:Nat)(d:Array Int)(w:World)(j:Holds (Value.int .u64) w blk off d)(u:a<=pivot)(G:pivot<b)(y:b<=d.size)(K:d.size<4611686018427387904):
 Calls prog 213 #[.slice (some ⟨blk,off,none⟩) d.size cap,.int .i64 a,.int .i64 b,.int .i64 pivot] w λe w'=>
  e= .returned (.int .i64 (Sort.partitionEqual Sort.ltInt d a b pivot).1)/\ ∃n,w'=putRow (Value.int .u64) (Sort.ahead w n) blk off (Sort.partitionEqual Sort.ltInt d a b pivot).2:=
 (sa blk off cap a b pivot d w j u G y K).mono λ_ _ ⟨z,n,hw⟩=>⟨z,n,hw⟩
theorem vN (blk off cap a b pivot:Nat)(d:Array Int)(w:World)(hH:Holds (Value.int .u64) w blk off d)(hap:a<=pivot)(hpb:pivot<b)(hb:b<=d.size)(hsz:d.size<4611686018427387904):
 Calls prog 214 #[.slice (some ⟨blk,off,none⟩) d.size cap,.int .i64 a,.int .i64 b,.int .i64 pivot] w λe w'=>
  e= .returned (.tuple #[.int .i64 (Sort.partition Sort.ltInt d a b pivot).1,.bool (Sort.partition Sort.ltInt d a b pivot).2.1])/\ ∃n,w'=(putRow (Value.int .u64) w blk off (Sort.partition Sort.ltInt d a b pivot).2.2).drewN n:=by
 have hla:a<d.size:=UN
 have hlp:pivot<d.size:=UN
 obtain⟨G,hG⟩: ∃G:Nat->Int,∀j,G j=d[j]! :=⟨λj=>d[j]!,λ_=>rfl⟩;have ca:w.cell? ⟨blk,off+a,none⟩=some (.int .u64 (G a)):=by rw [hG];exact(hH a hla).1
 have fa:=(hH a hla).2;have cp:w.cell? ⟨blk,off+pivot,none⟩=some (.int .u64 (G pivot)):=by rw [hG];exact(hH pivot hlp).1
 have fp:=(hH pivot hlp).2;obtain⟨v',hy'⟩:=Uh (w:=w) (p:=⟨blk,off+a,none⟩) (x:= .int .u64 (G pivot)) (q:=⟨blk,off+pivot,none⟩) cp;have hw:((w.setCell ⟨blk,off+a,none⟩ (.int .u64 (G pivot))).setCell ⟨blk,off+pivot,none⟩ (.int .u64 (G a))).drew=(putRow (Value.int .u64) w blk off (Sort.swp d a pivot)).drewN 1:=by
  have e:=swap_worldC (Value.int .u64) w blk off d 0 a pivot hla hlp;rw [putRow_self _ w blk off d hH]at e;rw [hG a,hG pivot];exact e
 have AH:Hid (Holds (Value.int .u64) w blk off d):=hH;have HW0:=Hid.mk' hw;clear hG hH hw;go_wp2;go_region;go_wp2;clear ca fa cp fp hy' v';have hw:=HW0.out;clear HW0;generalize ((w.setCell ⟨blk,off+a,none⟩ (.int .u64 (G pivot))).setCell ⟨blk,off+pivot,none⟩ (.int .u64 (G a))).drew=W1 at hw⊢;obtain⟨dk,hdk⟩: ∃dk,dk=Sort.swp d a pivot:=⟨_,rfl⟩;obtain⟨n,hn⟩: ∃n:Nat,n=1:=⟨_,rfl⟩;rw [<-hdk,<-hn]at hw;clear hn;have hs:dk.size=d.size:=by rw [hdk,size_swp]
 have e1:((a:Int)+1)=((a+1:Nat):Int):=UN
 have e2:((b:Int)-1)=((b-1:Nat):Int):=UN
 rw [e1,e2];clear e1 e2;obtain⟨i,hi⟩: ∃i,i=a+1:=⟨_,rfl⟩;obtain⟨j,hj⟩: ∃j,j=b-1:=⟨_,rfl⟩;rw [<-hi,<-hj];have hai:a<i:=UN
 have hij:i<=j+1:=UN
 have hjb:j<b:=UN
 have HI:=Hid.mk' hi;have HJ:=Hid.mk' hj;have HDK:=Hid.mk' hdk;clear hi hj hdk;have hHk:Holds (Value.int .u64) W1 blk off dk:=by
  rw [hw];exact holds_putRow (Value.int .u64) w blk off d dk AH.out hs
 obtain⟨Gk,hG⟩: ∃Gk:Nat->Int,∀t,Gk t=dk[t]! :=⟨λt=>dk[t]!,λ_=>rfl⟩;have hc: ∀t,t<d.size->W1.cell? ⟨blk,off+t,none⟩=some (.int .u64 (Gk t)):=λt ht=>by rw [hG];exact(hHk t UN).1
 have hf: ∀t,t<d.size->W1.frozen? ⟨blk,off+t,none⟩=false:=λt ht=>(hHk t UN).2;have AG:Hid (∀t,Gk t=dk[t]!):=hG;have AW:Hid (W1=(putRow (Value.int .u64) w blk off dk).drewN n):=hw;clear hG hw hHk
 go_loopw [10] (λvi w1=> ∃(i' n1:Nat),vi= .int .i64 i'/\i<=i'/\i'<=j+1/\w1=W1.drewN n1/\
  Hid (Sort.scanUp (λx=>Sort.ltInt x dk[a]!) dk j i'=Sort.scanUp (λx=>Sort.ltInt x dk[a]!) dk j i))
  (λvi _=>j+1-(intOf vi).toNat)
 case atStart=>exact⟨i,0,rfl,g9 _,hij,rfl,rfl⟩
 case round=>
  obtain⟨i',n1,rfl,hii,hij',hw1,hsc⟩:=hrel;have hcw: ∀t,t<d.size->wr.cell? ⟨blk,off+t,none⟩=some (.int .u64 (Gk t)):=λt ht=>(by rw [hw1];exact hc t ht);have HW1:Hid (wr=W1.drewN n1):=hw1;clear hw1;by_cases hle:i'<=j
  ·go_wp2_with fail
   go_big_quiet (first|(go_at_call 212;refine Tw (hS _ _ _)));go_wp2
   ·
    have ht:Sort.ltInt (Gk i') (Gk a)=true:=(by assumption);go_roundw
    case rel=>exact⟨i'+1,n1+nq,by go_num,UN,UN,by rw [HW1.out,Tv],(scanUp_go (λx=>Sort.ltInt x dk[a]!) dk j i' hle (by rw [<-AG.out a,<-AG.out i'];exact ht)).symm.trans hsc.out⟩
    case measure=>exact UY
   ·
    have ht:Sort.ltInt (Gk i') (Gk a)=false:=(by assumption);have hi2:Hid (i'=Sort.scanUp (λx=>Sort.ltInt x dk[a]!) dk j i):=(scanUp_end (λx=>Sort.ltInt x dk[a]!) dk j i' (Or.inr (by rw [<-AG.out a,<-AG.out i'];exact ht))).symm.trans hsc.out;clear ht;have hw2:wr.drewN nq=W1.drewN (n1+nq):=(by rw [HW1.out,Tv]);clear hcw HW1 hsc
    go_loopw [11] (λvj w2=> ∃(j' n2:Nat),vj= .int .i64 j'/\j'<=j/\i'<=j'+1/\w2=W1.drewN n2/\
     Hid (Sort.scanDown (λx=> !Sort.ltInt x dk[a]!) dk i' j'=Sort.scanDown (λx=> !Sort.ltInt x dk[a]!) dk i' j))
     (λvj _=>(intOf vj).toNat)
    case atStart=>exact⟨j,n1+nq,rfl,g9 _,hij',hw2,rfl⟩
    case round=>
     clear hw2;obtain⟨j',n2,rfl,hjj,hij2,hw2,hsd⟩:=hrel;have hcw: ∀t,t<d.size->wr.cell? ⟨blk,off+t,none⟩=some (.int .u64 (Gk t)):=λt ht=>(by rw [hw2];exact hc t ht);have HW2:Hid (wr=W1.drewN n2):=hw2;clear hw2;by_cases hle2:i'<=j'
     ·go_wp2_with fail
      go_big_quiet (first|(go_at_call 212;refine Tw (hS _ _ _)));go_wp2
      ·
       have ht:(!Sort.ltInt (Gk j') (Gk a))=true:=(by assumption);go_roundw
       case rel=>exact⟨j'-1,n2+nq,by go_num,UN,UN,by rw [HW2.out,Tv],(scanDown_go (λx=> !Sort.ltInt x dk[a]!) dk i' j' hle2 UN (by rw [<-AG.out a,<-AG.out j'];exact ht)).symm.trans hsd.out⟩
       case measure=>exact UY
      ·
       have ht:(!Sort.ltInt (Gk j') (Gk a))=false:=(by assumption);have hj2:Hid (j'=Sort.scanDown (λx=> !Sort.ltInt x dk[a]!) dk i' j):=(scanDown_end (λx=> !Sort.ltInt x dk[a]!) dk i' j' (Or.inr (by rw [<-AG.out a,<-AG.out j'];exact ht))).symm.trans hsd.out;clear hcw hsd ht;have hw3:wr.drewN nq=W1.drewN (n2+nq):=(by rw [HW2.out,Tv]);generalize wr.drewN nq=W3 at hw3⊢;have hc3: ∀t,t<d.size->W3.cell? ⟨blk,off+t,none⟩=some (.int .u64 (Gk t)):=λt ht=>(by rw [hw3];exact hc t ht);have hf3: ∀t,t<d.size->W3.frozen? ⟨blk,off+t,none⟩=false:=λt ht=>(by rw [hw3];exact hf t ht);have HW3:Hid (W3=W1.drewN (n2+nq)):=hw3;clear hw3;obtain⟨v3,hy3⟩:=Uh (w:=W3) (p:=⟨blk,off+i',none⟩) (x:= .int .u64 (Gk j')) (q:=⟨blk,off+j',none⟩) (hc3 j' UN);have hlt3:=part_scans_lt Sort.ltInt a i j dk UN hi2.out hj2.out hle2;go_wp2;go_region
       all_goals go_wp2
       obtain⟨R,hR⟩: ∃R,R=Sort.partLoop Sort.ltInt a (i'+1) (j'-1) (Sort.swp dk i' j'):=⟨_,rfl⟩;have HP:Hid (Sort.partition Sort.ltInt d a b pivot=(R.1,false,Sort.swp R.2 R.1 a)):=(by rw [hR];exact part_first_go Sort.ltInt d a b pivot HI.out HJ.out HDK.out hi2.out hj2.out UN);have hw0:((W3.setCell ⟨blk,off+i',none⟩ (.int .u64 (Gk j'))).setCell ⟨blk,off+j',none⟩ (.int .u64 (Gk i'))).drew=(putRow (Value.int .u64) w blk off (Sort.swp dk i' j')).drewN (n+(n2+nq)+1):=by
        rw [HW3.out,AW.out,Tv,AG.out i',AG.out j'];exact swap_worldC (Value.int .u64) w blk off dk _ i' j' UN UN
       have HR:Hid (R=Sort.partLoop Sort.ltInt a (i'+1) (j'-1) (Sort.swp dk i' j')):=hR;clear hR hc hf hc3 hf3 hy3 HW3 AW AG hi2 hj2
       go_loopw [10,11] (λvi vj wr=> ∃(i j n:Nat) (dk:Array Int),vi= .int .i64 i/\vj= .int .i64 j/\a<i/\i<=j+1/\j<b/\dk.size=d.size/\wr=(putRow (Value.int .u64) w blk off dk).drewN n/\
        Sort.partLoop Sort.ltInt a i j dk=R)
        (λvi vj _=>(intOf vj).toNat+1-(intOf vi).toNat)
       case atStart=>exact⟨i'+1,j'-1,_,Sort.swp dk i' j',by go_num,by go_num,UN,UN,UN,by rw [size_swp];exact hs,hw0,HR.out.symm⟩
       case round=>
        clear hw0 HR;obtain⟨i,j,n,dk,rfl,rfl,hai,hij,hjb,hs,hw,heq⟩:=hrel
        rename World=>W1
        have AE:Hid (Sort.partLoop Sort.ltInt a i j dk=R):=heq;clear heq;have hHk:Holds (Value.int .u64) W1 blk off dk:=by
         rw [hw];exact holds_putRow (Value.int .u64) w blk off d dk AH.out hs
        obtain⟨Gk,hG⟩: ∃Gk:Nat->Int,∀t,Gk t=dk[t]! :=⟨λt=>dk[t]!,λ_=>rfl⟩;have hc: ∀t,t<d.size->W1.cell? ⟨blk,off+t,none⟩=some (.int .u64 (Gk t)):=λt ht=>(by rw [hG];exact(hHk t UN).1);have hf: ∀t,t<d.size->W1.frozen? ⟨blk,off+t,none⟩=false:=λt ht=>(hHk t UN).2;have AG:Hid (∀t,Gk t=dk[t]!):=hG;have AW:Hid (W1=(putRow (Value.int .u64) w blk off dk).drewN n):=hw;clear hG hw hHk;go_wp2
        go_loopw [10] (λvi w1=> ∃(i' n1:Nat),vi= .int .i64 i'/\i<=i'/\i'<=j+1/\w1=W1.drewN n1/\
         Hid (Sort.scanUp (λx=>Sort.ltInt x dk[a]!) dk j i'=Sort.scanUp (λx=>Sort.ltInt x dk[a]!) dk j i))
         (λvi _=>j+1-(intOf vi).toNat)
        case atStart=>exact⟨i,0,rfl,g9 _,hij,rfl,rfl⟩
        case round=>
         obtain⟨i',n1,rfl,hii,hij',hw1,hsc⟩:=hrel;have hcw: ∀t,t<d.size->wr.cell? ⟨blk,off+t,none⟩=some (.int .u64 (Gk t)):=λt ht=>(by rw [hw1];exact hc t ht);have HW1:Hid (wr=W1.drewN n1):=hw1;clear hw1;by_cases hle:i'<=j
         ·go_wp2_with fail
          go_big_quiet (first|(go_at_call 212;refine Tw (hS _ _ _)));go_wp2
          ·
           have ht:Sort.ltInt (Gk i') (Gk a)=true:=(by assumption);go_roundw
           case rel=>exact⟨i'+1,n1+nq,by go_num,UN,UN,by rw [HW1.out,Tv],(scanUp_go (λx=>Sort.ltInt x dk[a]!) dk j i' hle (by rw [<-AG.out a,<-AG.out i'];exact ht)).symm.trans hsc.out⟩
           case measure=>exact UY
          ·
           have ht:Sort.ltInt (Gk i') (Gk a)=false:=(by assumption);have hi2:Hid (i'=Sort.scanUp (λx=>Sort.ltInt x dk[a]!) dk j i):=(scanUp_end (λx=>Sort.ltInt x dk[a]!) dk j i' (Or.inr (by rw [<-AG.out a,<-AG.out i'];exact ht))).symm.trans hsc.out;clear ht;have hw2:wr.drewN nq=W1.drewN (n1+nq):=(by rw [HW1.out,Tv]);clear hcw HW1 hsc
           go_loopw [11] (λvj w2=> ∃(j' n2:Nat),vj= .int .i64 j'/\j'<=j/\i'<=j'+1/\w2=W1.drewN n2/\
            Hid (Sort.scanDown (λx=> !Sort.ltInt x dk[a]!) dk i' j'=Sort.scanDown (λx=> !Sort.ltInt x dk[a]!) dk i' j))
            (λvj _=>(intOf vj).toNat)
           case atStart=>exact⟨j,n1+nq,rfl,g9 _,hij',hw2,rfl⟩
           case round=>
            clear hw2;obtain⟨j',n2,rfl,hjj,hij2,hw2,hsd⟩:=hrel;have hcw: ∀t,t<d.size->wr.cell? ⟨blk,off+t,none⟩=some (.int .u64 (Gk t)):=λt ht=>(by rw [hw2];exact hc t ht);have HW2:Hid (wr=W1.drewN n2):=hw2;clear hw2;by_cases hle2:i'<=j'
            ·go_wp2_with fail
             go_big_quiet (first|(go_at_call 212;refine Tw (hS _ _ _)));go_wp2
             ·
              have ht:(!Sort.ltInt (Gk j') (Gk a))=true:=(by assumption);go_roundw
              case rel=>exact⟨j'-1,n2+nq,by go_num,UN,UN,by rw [HW2.out,Tv],(scanDown_go (λx=> !Sort.ltInt x dk[a]!) dk i' j' hle2 UN (by rw [<-AG.out a,<-AG.out j'];exact ht)).symm.trans hsd.out⟩
              case measure=>exact UY
             ·
              have ht:(!Sort.ltInt (Gk j') (Gk a))=false:=(by assumption);have hj2:Hid (j'=Sort.scanDown (λx=> !Sort.ltInt x dk[a]!) dk i' j):=(scanDown_end (λx=> !Sort.ltInt x dk[a]!) dk i' j' (Or.inr (by rw [<-AG.out a,<-AG.out j'];exact ht))).symm.trans hsd.out;clear hcw hsd ht;have hw3:wr.drewN nq=W1.drewN (n2+nq):=(by rw [HW2.out,Tv]);generalize wr.drewN nq=W3 at hw3⊢;have hc3: ∀t,t<d.size->W3.cell? ⟨blk,off+t,none⟩=some (.int .u64 (Gk t)):=λt ht=>(by rw [hw3];exact hc t ht);have hf3: ∀t,t<d.size->W3.frozen? ⟨blk,off+t,none⟩=false:=λt ht=>(by rw [hw3];exact hf t ht);have HW3:Hid (W3=W1.drewN (n2+nq)):=hw3;clear hw3;obtain⟨v3,hy3⟩:=Uh (w:=W3) (p:=⟨blk,off+i',none⟩) (x:= .int .u64 (Gk j')) (q:=⟨blk,off+j',none⟩) (hc3 j' UN);have hlt3:=part_scans_lt Sort.ltInt a i j dk UN hi2.out hj2.out hle2;go_wp2;go_region
              all_goals go_wp2
              all_goals go_roundw
              case rel=>
               refine⟨i'+1,j'-1,n+(n2+nq)+1,Sort.swp dk i' j',by go_num,by go_num,UN,UN,UN,by rw [size_swp];exact hs,?_,?_⟩
               ·rw [HW3.out,AW.out,Tv,AG.out i',AG.out j']
                exact swap_worldC (Value.int .u64) w blk off dk _ i' j' UN UN
               ·exact(part_go Sort.ltInt a i j dk hi2.out hj2.out UN).symm.trans AE.out
              case measure=>exact UY
            ·go_wp2_with fail
             go_big_quiet (first|(go_at_call 212;refine Tw (hS _ _ _)));have hj2:Hid (j'=Sort.scanDown (λx=> !Sort.ltInt x dk[a]!) dk i' j):=(scanDown_end (λx=> !Sort.ltInt x dk[a]!) dk i' j' (lF hle2)).symm.trans hsd.out;clear hcw hsd;have hw3:wr.drewN nq=W1.drewN (n2+nq):=(by rw [HW2.out,Tv]);generalize wr.drewN nq=W3 at hw3⊢;have hc3: ∀t,t<d.size->W3.cell? ⟨blk,off+t,none⟩=some (.int .u64 (Gk t)):=λt ht=>(by rw [hw3];exact hc t ht);have hf3: ∀t,t<d.size->W3.frozen? ⟨blk,off+t,none⟩=false:=λt ht=>(by rw [hw3];exact hf t ht);have HW3:Hid (W3=W1.drewN (n2+nq)):=hw3;clear hw3;obtain⟨v3,hy3⟩:=Uh (w:=W3) (p:=⟨blk,off+j',none⟩) (x:= .int .u64 (Gk a)) (q:=⟨blk,off+a,none⟩) (hc3 a UN);have hlj:j'<d.size:=UN;go_wp2;go_region
             all_goals go_wp2
             all_goals go_ret2
             have e:Sort.partition Sort.ltInt d a b pivot=(j',false,Sort.swp dk j' a):=by
              have e0:=(part_break Sort.ltInt a i j dk hi2.out hj2.out UN).symm.trans AE.out;rw [HP.out,<-e0]
             refine⟨?_,n+(n2+nq)+1,?_⟩
             ·rw [e];rfl
             ·rw [e,HW3.out,AW.out,Tv,AG.out a,AG.out j']
              exact swap_worldC (Value.int .u64) w blk off dk _ j' a UN UN
         ·go_wp2_with fail
          go_big_quiet (first|(go_at_call 212;refine Tw (hS _ _ _)));go_wp2;have hi2:Hid (i'=Sort.scanUp (λx=>Sort.ltInt x dk[a]!) dk j i):=(scanUp_end (λx=>Sort.ltInt x dk[a]!) dk j i' (lF hle)).symm.trans hsc.out;have hw2:wr.drewN nq=W1.drewN (n1+nq):=(by rw [HW1.out,Tv]);clear hcw HW1 hsc
          go_loopw [11] (λvj w2=> ∃(j' n2:Nat),vj= .int .i64 j'/\j'<=j/\i'<=j'+1/\w2=W1.drewN n2/\
           Hid (Sort.scanDown (λx=> !Sort.ltInt x dk[a]!) dk i' j'=Sort.scanDown (λx=> !Sort.ltInt x dk[a]!) dk i' j))
           (λvj _=>(intOf vj).toNat)
          case atStart=>exact⟨j,n1+nq,rfl,g9 _,hij',hw2,rfl⟩
          case round=>
           clear hw2;obtain⟨j',n2,rfl,hjj,hij2,hw2,hsd⟩:=hrel;have hcw: ∀t,t<d.size->wr.cell? ⟨blk,off+t,none⟩=some (.int .u64 (Gk t)):=λt ht=>(by rw [hw2];exact hc t ht);have HW2:Hid (wr=W1.drewN n2):=hw2;clear hw2;by_cases hle2:i'<=j'
           ·exfalso;omega
           ·go_wp2_with fail
            go_big_quiet (first|(go_at_call 212;refine Tw (hS _ _ _)));have hj2:Hid (j'=Sort.scanDown (λx=> !Sort.ltInt x dk[a]!) dk i' j):=(scanDown_end (λx=> !Sort.ltInt x dk[a]!) dk i' j' (lF hle2)).symm.trans hsd.out;clear hcw hsd;have hw3:wr.drewN nq=W1.drewN (n2+nq):=(by rw [HW2.out,Tv]);generalize wr.drewN nq=W3 at hw3⊢;have hc3: ∀t,t<d.size->W3.cell? ⟨blk,off+t,none⟩=some (.int .u64 (Gk t)):=λt ht=>(by rw [hw3];exact hc t ht);have hf3: ∀t,t<d.size->W3.frozen? ⟨blk,off+t,none⟩=false:=λt ht=>(by rw [hw3];exact hf t ht);have HW3:Hid (W3=W1.drewN (n2+nq)):=hw3;clear hw3;obtain⟨v3,hy3⟩:=Uh (w:=W3) (p:=⟨blk,off+j',none⟩) (x:= .int .u64 (Gk a)) (q:=⟨blk,off+a,none⟩) (hc3 a UN);have hlj:j'<d.size:=UN;go_wp2;go_region
            all_goals go_wp2
            all_goals go_ret2
            have e:Sort.partition Sort.ltInt d a b pivot=(j',false,Sort.swp dk j' a):=by
             have e0:=(part_break Sort.ltInt a i j dk hi2.out hj2.out UN).symm.trans AE.out;rw [HP.out,<-e0]
            refine⟨?_,n+(n2+nq)+1,?_⟩
            ·rw [e];rfl
            ·rw [e,HW3.out,AW.out,Tv,AG.out a,AG.out j']
             exact swap_worldC (Value.int .u64) w blk off dk _ j' a UN UN
     ·go_wp2_with fail
      go_big_quiet (first|(go_at_call 212;refine Tw (hS _ _ _)));have hj2:Hid (j'=Sort.scanDown (λx=> !Sort.ltInt x dk[a]!) dk i' j):=(scanDown_end (λx=> !Sort.ltInt x dk[a]!) dk i' j' (lF hle2)).symm.trans hsd.out;clear hcw hsd;have hw3:wr.drewN nq=W1.drewN (n2+nq):=(by rw [HW2.out,Tv]);generalize wr.drewN nq=W3 at hw3⊢;have hc3: ∀t,t<d.size->W3.cell? ⟨blk,off+t,none⟩=some (.int .u64 (Gk t)):=λt ht=>(by rw [hw3];exact hc t ht);have hf3: ∀t,t<d.size->W3.frozen? ⟨blk,off+t,none⟩=false:=λt ht=>(by rw [hw3];exact hf t ht);have HW3:Hid (W3=W1.drewN (n2+nq)):=hw3;clear hw3;obtain⟨v3,hy3⟩:=Uh (w:=W3) (p:=⟨blk,off+j',none⟩) (x:= .int .u64 (Gk a)) (q:=⟨blk,off+a,none⟩) (hc3 a UN);have hlj:j'<d.size:=UN;go_wp2;go_region
      all_goals go_wp2
      all_goals go_ret2
      have e:Sort.partition Sort.ltInt d a b pivot=(j',true,Sort.swp dk j' a):=part_first_break Sort.ltInt d a b pivot HI.out HJ.out HDK.out hi2.out hj2.out UN;refine⟨?_,n+(n2+nq)+1,?_⟩
      ·rw [e];rfl
      ·rw [e,HW3.out,AW.out,Tv,AG.out a,AG.out j']
       exact swap_worldC (Value.int .u64) w blk off dk _ j' a UN UN
  ·go_wp2_with fail
   go_big_quiet (first|(go_at_call 212;refine Tw (hS _ _ _)));go_wp2;have hi2:Hid (i'=Sort.scanUp (λx=>Sort.ltInt x dk[a]!) dk j i):=(scanUp_end (λx=>Sort.ltInt x dk[a]!) dk j i' (lF hle)).symm.trans hsc.out;have hw2:wr.drewN nq=W1.drewN (n1+nq):=(by rw [HW1.out,Tv]);clear hcw HW1 hsc
   go_loopw [11] (λvj w2=> ∃(j' n2:Nat),vj= .int .i64 j'/\j'<=j/\i'<=j'+1/\w2=W1.drewN n2/\
    Hid (Sort.scanDown (λx=> !Sort.ltInt x dk[a]!) dk i' j'=Sort.scanDown (λx=> !Sort.ltInt x dk[a]!) dk i' j))
    (λvj _=>(intOf vj).toNat)
   case atStart=>exact⟨j,n1+nq,rfl,g9 _,hij',hw2,rfl⟩
   case round=>
    clear hw2;obtain⟨j',n2,rfl,hjj,hij2,hw2,hsd⟩:=hrel;have hcw: ∀t,t<d.size->wr.cell? ⟨blk,off+t,none⟩=some (.int .u64 (Gk t)):=λt ht=>(by rw [hw2];exact hc t ht);have HW2:Hid (wr=W1.drewN n2):=hw2;clear hw2;by_cases hle2:i'<=j'
    ·exfalso;omega
    ·go_wp2_with fail
     go_big_quiet (first|(go_at_call 212;refine Tw (hS _ _ _)));have hj2:Hid (j'=Sort.scanDown (λx=> !Sort.ltInt x dk[a]!) dk i' j):=(scanDown_end (λx=> !Sort.ltInt x dk[a]!) dk i' j' (lF hle2)).symm.trans hsd.out;clear hcw hsd;have hw3:wr.drewN nq=W1.drewN (n2+nq):=(by rw [HW2.out,Tv]);generalize wr.drewN nq=W3 at hw3⊢;have hc3: ∀t,t<d.size->W3.cell? ⟨blk,off+t,none⟩=some (.int .u64 (Gk t)):=λt ht=>(by rw [hw3];exact hc t ht);have hf3: ∀t,t<d.size->W3.frozen? ⟨blk,off+t,none⟩=false:=λt ht=>(by rw [hw3];exact hf t ht);have HW3:Hid (W3=W1.drewN (n2+nq)):=hw3;clear hw3;obtain⟨v3,hy3⟩:=Uh (w:=W3) (p:=⟨blk,off+j',none⟩) (x:= .int .u64 (Gk a)) (q:=⟨blk,off+a,none⟩) (hc3 a UN);have hlj:j'<d.size:=UN;go_wp2;go_region
     all_goals go_wp2
     all_goals go_ret2
     have e:Sort.partition Sort.ltInt d a b pivot=(j',true,Sort.swp dk j' a):=part_first_break Sort.ltInt d a b pivot HI.out HJ.out HDK.out hi2.out hj2.out UN;refine⟨?_,n+(n2+nq)+1,?_⟩
     ·rw [e];rfl
     ·rw [e,HW3.out,AW.out,Tv,AG.out a,AG.out j']
      exact swap_worldC (Value.int .u64) w blk off dk _ j' a UN UN
theorem rg (blk off cap a b pivot:Nat)(d:Array Int)(w:World)(j:Holds (Value.int .u64) w blk off d)(u:a<=pivot)(G:pivot<b)(y:b<=d.size)(K:d.size<4611686018427387904):
 Calls prog 214 #[.slice (some ⟨blk,off,none⟩) d.size cap,.int .i64 a,.int .i64 b,.int .i64 pivot] w λe w'=>
  e= .returned (.tuple #[.int .i64 (Sort.partition Sort.ltInt d a b pivot).1,.bool (Sort.partition Sort.ltInt d a b pivot).2.1])/\ ∃n,w'=putRow (Value.int .u64) (Sort.ahead w n) blk off (Sort.partition Sort.ltInt d a b pivot).2.2:=
 (vN blk off cap a b pivot d w j u G y K).mono λ_ _ ⟨z,n,hw⟩=>⟨z,n,hw⟩
theorem n5 {w:World}{blk off sb z n t:Nat}{d:Array Int}(h:Holds (Value.int .u64) w blk off d)(y:sb≠blk):Holds (Value.int .u64) (putRow (Value.int .i64) (Sort.ahead w n) sb z (one t)) blk off d:=λj u=>
 ⟨by rw [cell?_putRow_other _ _ _ _ _ _ (lF (nB y))];exact(h j u).1,by rw [frozen?_putRow];exact(h j u).2⟩
theorem qz (d:Array Int) (len:Nat) (Y:d.size=len) (blk off cap a b sb y s:Nat) (w:World) (K:Holds (Value.int .u64) w blk off d) (U:a<d.size) (V:b<d.size)
 (u:Holds (Value.int .i64) w sb y (one s)) (ab:s<2^62):
 Calls prog 360 #[.slice (some ⟨blk,off,none⟩) len cap,.int .i64 a,.int .i64 b,.pointer (some ⟨sb,y,none⟩)] w λe w'=>
  e= .returned (.tuple #[.int .i64 (order2 ltInt d a b s).1,.int .i64 (order2 ltInt d a b s).2.1])/\ ∃n,w'=putRow (Value.int .i64) (Sort.ahead w n) sb y (one (order2 ltInt d a b s).2.2):=by
 subst Y;replace ab:s<4611686018427387904:=UN
 have ca:=(K a U).1;have cb:=(K b V).1;obtain⟨cs,fs⟩:=one_cell u;have z:d[a]! =d[a]:=getElem!_pos d a U;have G:d[b]! =d[b]:=getElem!_pos d b V;go_wp2;go_region_with (go_at_call 212;refine(hS _ _ _).mono ?_;rintro e w'⟨rfl,rfl⟩)
 all_goals (try go_wp2)
 all_goals first
  |(have hlt:ltInt d[b] d[a]=true:=by assumption
    have j:order2 ltInt d a b s=(b,a,s+1):=(by simp [order2,z,G,hlt]);go_ret2;rw [j];refine⟨rfl,1,?_⟩;rw [putRow_ahead,<-one_set u (s+1)];simp [drew_eq_ahead])
  |(have hlt:ltInt d[b] d[a]=false:=by assumption
    have j:order2 ltInt d a b s=(a,b,s):=(by simp [order2,z,G,hlt]);go_ret2;rw [j];refine⟨rfl,1,?_⟩;rw [putRow_ahead,putRow_self _ _ _ _ _ u];rfl)
theorem tE (d:Array Int) (len:Nat) (V:d.size=len) (blk off cap a b c sb j s:Nat) (w:World) (u:Holds (Value.int .u64) w blk off d) (G:a<d.size) (K:b<d.size) (U:c<d.size) (z:sb≠blk)
 (y:Holds (Value.int .i64) w sb j (one s)) (Y:s+3<2^62):
 Calls prog 288 #[.slice (some ⟨blk,off,none⟩) len cap,.int .i64 a,.int .i64 b,.int .i64 c,.pointer (some ⟨sb,j,none⟩)] w λe w'=>
  e= .returned (.int .i64 (median ltInt d a b c s).1)/\ ∃n,w'=putRow (Value.int .i64) (Sort.ahead w n) sb j (one (median ltInt d a b c s).2):=by
 subst V;have l1:=order2_lt d s G K;have s1:=order2_swaps d a b s;have l2:=order2_lt d (order2 ltInt d a b s).2.2 l1.2 U;have s2:=order2_swaps d (order2 ltInt d a b s).2.1 c (order2 ltInt d a b s).2.2;go_in;go_wp2_with (go_at_call_of 360 (Value.int .i64 (b:Int));refine(qz d _ rfl blk off cap a b sb j s w u G K y UN).mono ?_;rintro e w'⟨rfl,n1,rfl⟩)
 go_wp2_with (go_at_call_of 360 (Value.int .i64 (c:Int));refine(qz d _ rfl blk off cap (order2 ltInt d a b s).2.1 c sb j (order2 ltInt d a b s).2.2 _ (n5 u z) l1.2 U (holds_one y) UN).mono ?_;rintro e w'⟨rfl,n2,rfl⟩)
 go_wp2_with (go_at_call_of 360 (Value.int .i64 ((order2 ltInt d a b s).1:Int));refine(qz d _ rfl blk off cap (order2 ltInt d a b s).1 (order2 ltInt d (order2 ltInt d a b s).2.1 c (order2 ltInt d a b s).2.2).1 sb j (order2 ltInt d (order2 ltInt d a b s).2.1 c (order2 ltInt d a b s).2.2).2.2 _
  (n5 (n5 u z) z) l1.1 l2.1 (holds_one (holds_one y)) UN).mono ?_;rintro e w'⟨rfl,n3,rfl⟩)
 go_ret;refine⟨rfl,n1+(n2+n3),?_⟩;rw [one_one,one_one];rfl
theorem sc (d:Array Int) (len:Nat) (G:d.size=len) (blk off cap a sb j s:Nat) (w:World) (u:Holds (Value.int .u64) w blk off d) (Y:1<=a) (z:a+1<d.size) (V:d.size<2^62) (K:sb≠blk)
 (y:Holds (Value.int .i64) w sb j (one s)) (U:s+3<2^62):
 Calls prog 287 #[.slice (some ⟨blk,off,none⟩) len cap,.int .i64 a,.pointer (some ⟨sb,j,none⟩)] w λe w'=>
  e= .returned (.int .i64 (medianAdjacent ltInt d a s).1)/\ ∃n,w'=putRow (Value.int .i64) (Sort.ahead w n) sb j (one (medianAdjacent ltInt d a s).2):=by
 subst G;replace V:d.size<4611686018427387904:=UN
 go_in;go_wp2_with (go_at_call 288;rw [show((a:Int)-1)=((a-1:Nat):Int)by omega,show((a:Int)+1)=((a+1:Nat):Int)by omega];refine(tE d _ rfl blk off cap (a-1) a (a+1) sb j s w u UN UN z K y U).mono ?_;rintro e w'⟨rfl,n1,rfl⟩)
 go_ret;exact⟨rfl,n1,rfl⟩
theorem JJ (w:World)(N S:Nat): ∃os,putRow (Value.int .i64) (Sort.ahead (w.alloc (.cells #[I0] 3)) N) w.heap.size 0 (one S)=grow (Sort.ahead w N) os:=by
 rw [alloc_eq_grow,ahead_grow];obtain⟨os,_,h⟩:=putRow_grow_new (Value.int .i64) (Sort.ahead w N) #[.cells #[I0] 3] w.heap.size 0 (one S) (g9 _);exact⟨os,h⟩
theorem DH (blk off cap:Nat)(d:Array Int)(w:World)(ad:Holds (Value.int .u64) w blk off d)(ae:blk<w.heap.size)(ah:d.size<4611686018427387904):
 ∃u:Nat->Nat->World,
  w.alloc (.cells #[I0] 3)=u 0 0/\
  (∀N S:Nat,(u N S).cell? ⟨w.heap.size,0,none⟩=some (.int .i64 (S:Int)))/\
  (∀N S:Nat,∃os,u N S=grow (Sort.ahead w N) os)/\
  (∀x s N:Nat,1<=x->x+1<d.size->s+3<4611686018427387904->Calls prog 287 #[.slice (some ⟨blk,off,none⟩) d.size cap,.int .i64 (x:Int),.pointer (some ⟨w.heap.size,0,none⟩)] (u N s) λe w'=>
    e= .returned (.int .i64 ((medianAdjacent ltInt d x s).1:Int))/\ ∃U,w'=u U (medianAdjacent ltInt d x s).2)/\
  (∀x y z s N:Nat,x<d.size->y<d.size->z<d.size->s+3<4611686018427387904->Calls prog 288 #[.slice (some ⟨blk,off,none⟩) d.size cap,.int .i64 (x:Int),.int .i64 (y:Int),.int .i64 (z:Int),.pointer (some ⟨w.heap.size,0,none⟩)] (u N s) λe w'=>
    e= .returned (.int .i64 ((median ltInt d x y z s).1:Int))/\ ∃U,w'=u U (median ltInt d x y z s).2):=by
 have K:w.heap.size≠blk:=UN
 have Y:Holds (Value.int .u64) (w.alloc (.cells #[I0] 3)) blk off d:=by rw [alloc_eq_grow];exact holds_grow _ _ _ _ _ _ ae ad
 have G:Holds (Value.int .i64) (w.alloc (.cells #[I0] 3)) w.heap.size 0 (one 0):=λj af=>by
  obtain rfl:j=0:=(by simpa using af);simp
 refine⟨λN S=>putRow (Value.int .i64) (Sort.ahead (w.alloc (.cells #[I0] 3)) N) w.heap.size 0 (one S),(putRow_self _ _ _ _ _ G).symm,λN S=>(one_cell (holds_one (n:=N) (t:=S) G)).1,λN S=>JJ w N S,?_,?_⟩
 ·intro x s N h1 h2 ag
  refine(sc d _ rfl blk off cap x w.heap.size 0 s _ (n5 Y K) h1 h2 UN K (holds_one G) UN).mono ?_;rintro e w'⟨V,n,hw⟩;exact⟨V,N+n,by rw [hw,one_one]⟩
 ·intro x y z s N h1 h2 ab ag
  refine(tE d _ rfl blk off cap x y z w.heap.size 0 s _ (n5 Y K) h1 h2 ab K (holds_one G) UN).mono ?_;rintro e w'⟨V,n,hw⟩;exact⟨V,N+n,by rw [hw,one_one]⟩
theorem ue (blk off cap a b:Nat)(d:Array Int)(w:World)(aw:Holds (Value.int .u64) w blk off d)(aD:blk<w.heap.size)(aN:a<b)(aO:b<=d.size)(aE:d.size<4611686018427387904):
 Calls prog 209 #[.slice (some ⟨blk,off,none⟩) d.size cap,.int .i64 a,.int .i64 b] w λe w'=>
  e= .returned (.tuple #[.int .i64 (choosePivot ltInt d a b).1,.int .i64 (hintCode (choosePivot ltInt d a b).2)])/\ ∃n os,w'=grow (Sort.ahead w n) os:=by
 obtain⟨z,ax,aI,ar,Y,af⟩:=DH blk off cap d w aw aD aE;clear aw;rw [choosePivot_eq];obtain⟨I,aj⟩: ∃I:Nat,I=a+(b-a) / 4*1:=⟨_,rfl⟩;obtain⟨J,ab⟩: ∃J:Nat,J=a+(b-a) / 4*2:=⟨_,rfl⟩;obtain⟨y,ak⟩: ∃y:Nat,y=a+(b-a) / 4*3:=⟨_,rfl⟩;have aJ:((a:Int)+((b:Int)-(a:Int)) / 4)=(I:Int):=UN
 have aK:((a:Int)+((b:Int)-(a:Int)) / 4*2)=(J:Int):=UN
 have aL:((a:Int)+((b:Int)-(a:Int)) / 4*3)=(y:Int):=by omega
 by_cases aq:b-a>=8
 ·by_cases av:b-a>=50
  ·
   obtain⟨ad,s1,h1⟩: ∃ad s1,medianAdjacent ltInt d I 0=(ad,s1):=⟨_,_,rfl⟩;obtain⟨ae,s2,h2⟩: ∃ae s2,medianAdjacent ltInt d J s1=(ae,s2):=⟨_,_,rfl⟩;obtain⟨k1,s3,ai⟩: ∃k1 s3,medianAdjacent ltInt d y s2=(k1,s3):=⟨_,_,rfl⟩;obtain⟨p,s,V⟩: ∃p s,median ltInt d ad ae k1 s3=(p,s):=⟨_,_,rfl⟩;have U:rawPivot ltInt d a b=(p,s):=(by simp only [rawPivot,g7 aq,g7 av,<-aj,<-ab,<-ak,h1,h2,ai,V]);have m1:=medianAdjacent_mem ltInt d I 0;rw [h1]at m1;have m2:=medianAdjacent_mem ltInt d J s1;rw [h2]at m2;have au:=medianAdjacent_mem ltInt d y s2;rw [ai]at au;have n1:=medianAdjacent_count ltInt d I 0;rw [h1]at n1;have n2:=medianAdjacent_count ltInt d J s1;rw [h2]at n2;have n3:=medianAdjacent_count ltInt d y s2;rw [ai]at n3;simp only []at m1 m2 au n1 n2 n3;have c1:Calls prog 287 #[.slice (some ⟨blk,off,none⟩) d.size cap,.int .i64 (I:Int),.pointer (some ⟨w.heap.size,0,none⟩)] (z 0 0) λe w'=>e= .returned (.int .i64 (ad:Int))/\ ∃G,w'=z G s1:=by
    have h:=Y I 0 0 UN UN UN;rw [h1]at h;exact h
   have c2: ∀N,Calls prog 287 #[.slice (some ⟨blk,off,none⟩) d.size cap,.int .i64 (J:Int),.pointer (some ⟨w.heap.size,0,none⟩)] (z N s1) λe w'=>e= .returned (.int .i64 (ae:Int))/\ ∃G,w'=z G s2:=λN=>by
    have h:=Y J s1 N UN UN UN;rw [h2]at h;exact h
   have aC: ∀N,Calls prog 287 #[.slice (some ⟨blk,off,none⟩) d.size cap,.int .i64 (y:Int),.pointer (some ⟨w.heap.size,0,none⟩)] (z N s2) λe w'=>e= .returned (.int .i64 (k1:Int))/\ ∃G,w'=z G s3:=λN=>by
    have h:=Y y s2 N UN UN UN;rw [ai]at h;exact h
   have ap: ∀N,Calls prog 288 #[.slice (some ⟨blk,off,none⟩) d.size cap,.int .i64 (ad:Int),.int .i64 (ae:Int),.int .i64 (k1:Int),.pointer (some ⟨w.heap.size,0,none⟩)] (z N s3) λe w'=>e= .returned (.int .i64 (p:Int))/\ ∃G,w'=z G s:=λN=>by
    have h:=af ad ae k1 s3 N UN UN UN UN;rw [V]at h;exact h
   rw [U];obtain⟨j,u⟩: ∃j:Int,j=hintCode (hintOf s):=⟨_,rfl⟩;have K:s=0->j=1:=λh=>(by rw [u,h];rfl);have al:s=12->j=2:=λh=>(by rw [u,h];rfl);have ao:s≠0->s≠12->j=0:=λh1 h2=>(by rw [u];unfold hintOf;rw [g3 h1,g3 h2];rfl);show Calls prog 209 _ w λe w'=>e= .returned (.tuple #[.int .i64 (p:Int),.int .i64 (hintCode (hintOf s))])/\ ∃n os,w'=grow (Sort.ahead w n) os;rw [<-u];clear u U;clear h1 h2 ai V Y af aj ab ak m1 m2 au;go_in
   go_wp2_with (first
    |(go_at_call_has 287 (Value.int .i64 (I:Int));refine c1.mono ?_;rintro e w'⟨rfl,aF,rfl⟩)
    |(go_at_call_has 287 (Value.int .i64 (J:Int));refine(c2 _).mono ?_;rintro e w'⟨rfl,aG,rfl⟩)
    |(go_at_call_has 287 (Value.int .i64 (y:Int));refine(aC _).mono ?_;rintro e w'⟨rfl,aH,rfl⟩)
    |(go_at_call 288;refine(ap _).mono ?_;rintro e w'⟨rfl,aA,rfl⟩))
   all_goals
    go_ret2;refine⟨?_,_,ar _ _⟩
    first
     |(have ag:(s:Int)=0:=of_beq_int (by assumption)
       rw [K UN];rfl)
     |(have ah:(s:Int)=12:=of_beq_int (by assumption)
       rw [al UN];rfl)
     |(have ag:(s:Int)≠0:=of_bne_int (by assumption)
       have ah:(s:Int)≠12:=of_bne_int (by assumption);rw [ao UN UN];rfl)
     |(rw [K UN];rfl)
  ·
   obtain⟨p,s,V⟩: ∃p s,median ltInt d I J y 0=(p,s):=⟨_,_,rfl⟩;have U:rawPivot ltInt d a b=(p,s):=(by simp only [rawPivot,g7 aq,g3 av,<-aj,<-ab,<-ak,V]);have ap:Calls prog 288 #[.slice (some ⟨blk,off,none⟩) d.size cap,.int .i64 (I:Int),.int .i64 (J:Int),.int .i64 (y:Int),.pointer (some ⟨w.heap.size,0,none⟩)] (z 0 0) λe w'=>e= .returned (.int .i64 (p:Int))/\ ∃G,w'=z G s:=by
    have h:=af I J y 0 0 UN UN UN UN;rw [V]at h;exact h
   rw [U];obtain⟨j,u⟩: ∃j:Int,j=hintCode (hintOf s):=⟨_,rfl⟩;have K:s=0->j=1:=λh=>(by rw [u,h];rfl);have al:s=12->j=2:=λh=>(by rw [u,h];rfl);have ao:s≠0->s≠12->j=0:=λh1 h2=>(by rw [u];unfold hintOf;rw [g3 h1,g3 h2];rfl);show Calls prog 209 _ w λe w'=>e= .returned (.tuple #[.int .i64 (p:Int),.int .i64 (hintCode (hintOf s))])/\ ∃n os,w'=grow (Sort.ahead w n) os;rw [<-u];clear u U;clear V Y af aj ab ak;go_in;go_wp2_with (first|(go_at_call 288;refine ap.mono ?_;rintro e w'⟨rfl,aA,rfl⟩))
   all_goals
    go_ret2;refine⟨?_,_,ar _ _⟩
    first
     |(have ag:(s:Int)=0:=of_beq_int (by assumption)
       rw [K UN];rfl)
     |(have ah:(s:Int)=12:=of_beq_int (by assumption)
       rw [al UN];rfl)
     |(have ag:(s:Int)≠0:=of_bne_int (by assumption)
       have ah:(s:Int)≠12:=of_bne_int (by assumption);rw [ao UN UN];rfl)
     |(rw [K UN];rfl)
 ·
  obtain⟨p,ay⟩: ∃p:Nat,p=J:=⟨_,rfl⟩;obtain⟨s,az⟩: ∃s:Nat,s=0:=⟨_,rfl⟩;have U:rawPivot ltInt d a b=(p,s):=(by simp only [rawPivot,g3 aq,<-ab,ay,az]);rw [U];obtain⟨j,u⟩: ∃j:Int,j=hintCode (hintOf s):=⟨_,rfl⟩;have K:s=0->j=1:=λh=>(by rw [u,h];rfl);have al:s=12->j=2:=λh=>(by rw [u,h];rfl);have ao:s≠0->s≠12->j=0:=λh1 h2=>(by rw [u];unfold hintOf;rw [g3 h1,g3 h2];rfl);show Calls prog 209 _ w λe w'=>e= .returned (.tuple #[.int .i64 (p:Int),.int .i64 (hintCode (hintOf s))])/\ ∃n os,w'=grow (Sort.ahead w n) os;rw [<-u];clear u U;subst ay;clear Y af aj ab ak;have aM:w.alloc (.cells #[I0] 3)=z 0 s:=(by rw [az];exact ax);clear ax;go_wp2
  all_goals
   go_ret2;refine⟨?_,_,ar _ _⟩
   first
    |(have ag:(s:Int)=0:=of_beq_int (by assumption)
      rw [K UN];rfl)
    |(have ah:(s:Int)=12:=of_beq_int (by assumption)
      rw [al UN];rfl)
    |(have ag:(s:Int)≠0:=of_bne_int (by assumption)
      have ah:(s:Int)≠12:=of_bne_int (by assumption);rw [ao UN UN];rfl)
    |(rw [K UN];rfl)
theorem vM (j u X:Nat)(U:X<18446744073709551616)(w:World)(af:w.cell? ⟨j,u,none⟩=some (.int .u64 X))(ag:w.frozen? ⟨j,u,none⟩=false):
 Calls prog 286 #[.pointer (some ⟨j,u,none⟩)] w λe w'=>e= .returned (.int .u64 (xorNextN X:Nat))/\w'=(w.setCell ⟨j,u,none⟩ (.int .u64 (xorNextN X:Nat))).drewN 3:=by
 obtain⟨A,y⟩: ∃A:Nat,A=X ^^^ (X*8192 % 18446744073709551616):=⟨_,rfl⟩;obtain⟨B,z⟩: ∃B:Nat,B=A ^^^ (A / 128):=⟨_,rfl⟩;obtain⟨C,G⟩: ∃C:Nat,C=B ^^^ (B*131072 % 18446744073709551616):=⟨_,rfl⟩;have V:A<18446744073709551616:=by rw [y];exact Nat.xor_lt_two_pow (n:=64) UN UN
 have Y:B<18446744073709551616:=by rw [z];exact Nat.xor_lt_two_pow (n:=64) UN UN
 have ab:bits .xor .u64 (X:Int) (IntKind.u64.wrap ((X:Int)*8192))=(A:Int):=by
  rw [jP,show((X:Int)*8192 % 18446744073709551616)=((X*8192 % 18446744073709551616:Nat):Int)by omega,bits_xor_u64_nat _ _ U UN,y]
 have ad:bits .xor .u64 (A:Int) ((A:Int) / 128)=(B:Int):=by
  rw [show((A:Int) / 128)=((A / 128:Nat):Int)by omega,bits_xor_u64_nat _ _ V UN,z]
 have ae:bits .xor .u64 (B:Int) (IntKind.u64.wrap ((B:Int)*131072))=(C:Int):=by
  rw [jP,show((B:Int)*131072 % 18446744073709551616)=((B*131072 % 18446744073709551616:Nat):Int)by omega,bits_xor_u64_nat _ _ Y UN,G]
 have K:xorNextN X=C:=by unfold xorNextN;simp only [];rw [<-y,<-z,<-G]
 rw [K];clear y z G K;have ah: ∀v v',(w.setCell ⟨j,u,none⟩ v).setCell ⟨j,u,none⟩ v'=w.setCell ⟨j,u,none⟩ v':=setCell_setCell w j u;go_wp2;go_region
 all_goals go_wp2
 all_goals go_region
 all_goals go_wp2
 all_goals go_region
 all_goals go_wp2
 go_ret;exact⟨rfl,rfl⟩
theorem u' (n:Nat)(y:n<4611686018427387904)(w:World):
 Calls prog 285 #[.int .i64 n] w λe w'=>e= .returned (.int .u64 ((1 <<< bitsLen n:Nat):Int))/\w'=w:=by
 have j: ∀w,Calls prog 147 #[.int .u64 (n:Int)] w λe w'=>e= .returned (.int .i64 (bitsLen n:Nat))/\w'=w:=λw=>by
  have h:=sP (n:Int) w UN UN
  rwa [jJ,bitLen_eq _ UN]at h
 have u:bitsLen n<=62:=(bitsLen_le_iff n 62).2 UN;have z:=wrap_two_pow (bitsLen n) u;go_in;go_wp2_with (first|(go_at_call 147;refine(j _).mono ?_;rintro e w'⟨rfl,rfl⟩))
 go_ret;exact⟨rfl,rfl⟩
theorem rh (blk off cap a L:Nat)(d:Array Int)(w:World)(ah:Holds (Value.int .u64) w blk off d)(Y:blk<w.heap.size)(aE:a+L<=d.size)(aH:d.size<4611686018427387904)(au:8<=L):
 Calls prog 208 #[.slice (some ⟨blk,off,none⟩) d.size cap,.int .i64 a,.int .i64 ((a+L:Nat):Int)] w λe w'=>
  e= .returned (.tuple #[])/\ ∃n os,w'=grow (putRow (Value.int .u64) (Sort.ahead w n) blk off (breakPatterns d a (a+L))) os:=by
 rw [breakPatterns_eq d a L au];obtain⟨M,y⟩: ∃M:Nat,M=1 <<< bitsLen L:=⟨_,rfl⟩;have aC:1<=M:=by rw [y,Nat.one_shiftLeft];exact Nat.two_pow_pos _
 have aD:M<=2*L:=by rw [y,Nat.one_shiftLeft];exact two_pow_bitsLen_le UN
 have aw: ∀w,Calls prog 285 #[.int .i64 (L:Int)] w λe w'=>e= .returned (.int .u64 (M:Int))/\w'=w:=by rw [y];exact λw=>u' L UN w
 rw [<-y];clear y;have al:Hid (Holds (Value.int .u64) w blk off d):=ah;have ar:Hid (w.alloc (Obj.cells #[.int .u64 (L:Int)] 391)=grow (putRow (Value.int .u64) (Sort.ahead w 0) blk off d) #[Obj.cells #[.int .u64 ((UInt64.ofNat L).toNat:Int)] 391]):=by
  show _=_;rw [show Sort.ahead w 0=w from rfl,putRow_self _ _ _ _ _ ah,alloc_eq_grow,show(UInt64.ofNat L).toNat=L from by simp;omega]
 clear ah;go_in;go_wp2_with (first|(go_at_call 285;rw [show((a:Int)+(L:Int)-(a:Int))=(L:Int)by omega];refine(aw _).mono ?_;rintro e w'⟨rfl,rfl⟩))
 go_loopw [9] (λaj wr=> ∃(t n:Nat) (r:UInt64) (j:Array Int),aj= .int .i64 ((a+L / 4*2-1+t:Nat):Int)/\t<=3/\j.size=d.size/\
  wr=grow (putRow (Value.int .u64) (Sort.ahead w n) blk off j) #[Obj.cells #[.int .u64 (r.toNat:Int)] 391]/\
  bpRest a L M (a+L / 4*2-1) (3-t) t (r,j)=bpRest a L M (a+L / 4*2-1) 3 0 (UInt64.ofNat L,d)) (λaj _=>a+L / 4*2+3-(intOf aj).toNat)
 case atStart=>exact⟨0,0,UInt64.ofNat L,d,by congr 1;omega,UN,rfl,ar.out,rfl⟩
 case round=>
  obtain⟨t,n,r,j,rfl,ht,ai,hw,ao⟩:=hrel;obtain⟨R,V⟩: ∃R:Nat,R=r.toNat:=⟨_,rfl⟩;have aq:R<18446744073709551616:=(by rw [V];exact r.toNat_lt);obtain⟨u,U⟩: ∃u:Nat,u=xorNextN R:=⟨_,rfl⟩;have az:u<18446744073709551616:=(by rw [U];exact xorNextN_lt R aq);obtain⟨O,K⟩: ∃O:Nat,O=u &&& (M-1):=⟨_,rfl⟩;have aI:O<=M-1:=(by rw [K];exact Nat.and_le_right);have aA:bits .and .u64 (u:Int) ((M:Int)-1)=(O:Int):=by
   rw [show((M:Int)-1)=((M-1:Nat):Int)by omega,bits_and_u64_nat _ _ az UN,K]
  obtain⟨z,ag⟩: ∃z:Nat->Int,∀x,z x=j[x]! :=⟨λx=>j[x]!,λ_=>rfl⟩;have ab:(putRow (Value.int .u64) (Sort.ahead w n) blk off j).heap.size=w.heap.size:=US;have aF: ∀x,x<d.size->wr.cell? ⟨blk,off+x,none⟩=some (.int .u64 (z x)):=λx ap=>by
   rw [hw,cell?_grow _ _ _ (by rw [ab];exact Y),ag];exact cell?_putRow _ _ _ _ d j (holds_ahead _ _ _ _ _ _ al.out) ai x UN
  have aG: ∀x,x<d.size->wr.frozen? ⟨blk,off+x,none⟩=false:=λx ap=>by
   rw [hw,frozen?_grow _ _ _ (by rw [ab];exact Y),frozen?_putRow];exact((holds_ahead _ _ n _ _ _ al.out) x ap).2
  have ax:wr.cell? ⟨w.heap.size,0,none⟩=some (.int .u64 (R:Int)):=(by rw [hw,V,<-ab];exact grow_one_cell _ _ _);have ay:wr.frozen? ⟨w.heap.size,0,none⟩=false:=(by rw [hw,<-ab];exact grow_one_frozen _ _ _);have hNext:Calls prog 286 #[.pointer (some ⟨w.heap.size,0,none⟩)] wr λe w'=>e= .returned (.int .u64 (u:Int))/\w'=(wr.setCell ⟨w.heap.size,0,none⟩ (.int .u64 (u:Int))).drewN 3:=by
   rw [U];exact vM _ _ R aq wr ax ay
  have ae:Hid (wr=grow (putRow (Value.int .u64) (Sort.ahead w n) blk off j) #[Obj.cells #[.int .u64 (r.toNat:Int)] 391]):=hw;have ak:Hid (∀x,z x=j[x]!):=ag;have ad:Hid (bpRest a L M (a+L / 4*2-1) (3-t) t (r,j)=bpRest a L M (a+L / 4*2-1) 3 0 (UInt64.ofNat L,d)):=ao;have G:Hid (u=(xorNext r).toNat/\O=(xorNext r).toNat &&& (M-1)):=by
   have e:u=(xorNext r).toNat:=(by rw [U,V,xorNext_toNat]);exact⟨e,by rw [K,e]⟩
  clear hw ag ao V U K;go_wp2_with (first|(go_at_call 286;refine hNext.mono ?_;rintro e w'⟨rfl,rfl⟩))
  ·
   have av:L<=O:=UN;by_cases af:a+L / 4*2-1+t=a+(O-L)
   all_goals
    go_region
    all_goals go_wp2
    go_roundw
    case rel=>
     refine⟨t+1,n+4,xorNext r,swp j (a+L / 4*2-1+t) (a+(O-L)),by first|rfl|(congr 1<;>omega),UN,by rw [size_swp];exact ai,?_,?_⟩
     ·(try rw [af])
      rw [ae.out,G.out.1];simp only [ak.out];exact step_world (Value.int .u64) w n 4 blk off j _ _ Y UN UN _ _ _
     ·rw [<-ad.out,bp_step a L M _ t r j (O-L) UN (by rw [<-G.out.2,g7 UN])]
    case measure=>exact UY
  ·have av: ¬L<=O:=by omega
   by_cases af:a+L / 4*2-1+t=a+O
   all_goals
    go_region
    all_goals go_wp2
    go_roundw
    case rel=>
     refine⟨t+1,n+4,xorNext r,swp j (a+L / 4*2-1+t) (a+O),by first|rfl|(congr 1<;>omega),UN,by rw [size_swp];exact ai,?_,?_⟩
     ·(try rw [af])
      rw [ae.out,G.out.1];simp only [ak.out];exact step_world (Value.int .u64) w n 4 blk off j _ _ Y UN UN _ _ _
     ·rw [<-ad.out,bp_step a L M _ t r j O UN (by rw [<-G.out.2,g3 UN])]
    case measure=>exact UY
  ·
   obtain rfl:t=3:=UN;go_end0;exact⟨rfl,n,_,by rw [<-ad.out,ae.out];rfl⟩
theorem tl (blk off cap a b:Nat)(d:Array Int)(w:World)(j:Holds (Value.int .u64) w blk off d)(G:blk<w.heap.size)(V:a<=b)(z:b<=d.size)(K:d.size<4611686018427387904):
 Calls prog 208 #[.slice (some ⟨blk,off,none⟩) d.size cap,.int .i64 a,.int .i64 b] w λe w'=>
  e= .returned (.tuple #[])/\ ∃n os,w'=grow (putRow (Value.int .u64) (Sort.ahead w n) blk off (breakPatterns d a b)) os:=by
 obtain⟨L,rfl⟩: ∃L,b=a+L:=⟨b-a,UN⟩;by_cases u:8<=L
 ·exact rh blk off cap a L d w j G z K u
 ·have U:breakPatterns d a (a+L)=d:=by unfold breakPatterns;simp only [Nat.add_sub_cancel_left];rw [g3 u]
  rw [U];have y:Hid (w=grow (putRow (Value.int .u64) (Sort.ahead w 0) blk off d) #[]):=by
   show _=_;rw [grow_empty,show Sort.ahead w 0=w from rfl,putRow_self _ _ _ _ _ j]
  clear j;go_wp2;go_end0;exact⟨rfl,0,#[],y.out⟩
structure Dd:Prop where
 ins: ∀(blk off cap a b:Nat) (d:Array Int) (w:World),Holds jz w blk off d->a<=b->b<=d.size->d.size<4611686018427387904->
  Calls prog 206 #[.slice (some ⟨blk,off,none⟩) d.size cap,.int .i64 a,.int .i64 b] w λe w'=>e= .returned (.tuple #[])/\ ∃n,w'=putRow jz (Sort.ahead w n) blk off (insertionSort ltInt d a b)
 brk: ∀(blk off cap a b:Nat) (d:Array Int) (w:World),Holds jz w blk off d->blk<w.heap.size->a<=b->b<=d.size->d.size<4611686018427387904->
  Calls prog 208 #[.slice (some ⟨blk,off,none⟩) d.size cap,.int .i64 a,.int .i64 b] w λe w'=>e= .returned (.tuple #[])/\ ∃n os,w'=grow (putRow jz (Sort.ahead w n) blk off (breakPatterns d a b)) os
 piv: ∀(blk off cap a b:Nat) (d:Array Int) (w:World),Holds jz w blk off d->blk<w.heap.size->a<b->b<=d.size->d.size<4611686018427387904->
  Calls prog 209 #[.slice (some ⟨blk,off,none⟩) d.size cap,.int .i64 a,.int .i64 b] w λe w'=>e= .returned (.tuple #[.int .i64 (choosePivot ltInt d a b).1,.int .i64 (hintCode (choosePivot ltInt d a b).2)])/\ ∃n os,w'=grow (Sort.ahead w n) os
 par: ∀(blk off cap a b:Nat) (d:Array Int) (w:World),Holds jz w blk off d->a<b->b<=d.size->d.size<4611686018427387904->
  Calls prog 211 #[.slice (some ⟨blk,off,none⟩) d.size cap,.int .i64 a,.int .i64 b] w λe w'=>e= .returned (.bool (partialInsertionSort ltInt d a b).2)/\ ∃n,w'=putRow jz (Sort.ahead w n) blk off (partialInsertionSort ltInt d a b).1
 peq: ∀(blk off cap a b pivot:Nat) (d:Array Int) (w:World),Holds jz w blk off d->a<=pivot->pivot<b->b<=d.size->d.size<4611686018427387904->
  Calls prog 213 #[.slice (some ⟨blk,off,none⟩) d.size cap,.int .i64 a,.int .i64 b,.int .i64 pivot] w λe w'=>e= .returned (.int .i64 (partitionEqual ltInt d a b pivot).1)/\ ∃n,w'=putRow jz (Sort.ahead w n) blk off (partitionEqual ltInt d a b pivot).2
 prt: ∀(blk off cap a b pivot:Nat) (d:Array Int) (w:World),Holds jz w blk off d->a<=pivot->pivot<b->b<=d.size->d.size<4611686018427387904->
  Calls prog 214 #[.slice (some ⟨blk,off,none⟩) d.size cap,.int .i64 a,.int .i64 b,.int .i64 pivot] w λe w'=>e= .returned (.tuple #[.int .i64 (partition ltInt d a b pivot).1,.bool (partition ltInt d a b pivot).2.1])/\ ∃n,w'=putRow jz (Sort.ahead w n) blk off (partition ltInt d a b pivot).2.2
theorem y4 (C:Dd)(S:Plain13): ∀(N blk off cap a b limit:Nat) (d:Array Int) (w:World),b-a<N->Holds jz w blk off d->blk<w.heap.size->a<=b->b<=d.size->d.size<4611686018427387904->limit<4611686018427387904->Below ltInt a b d->
 Calls prog 146 #[.slice (some ⟨blk,off,none⟩) d.size cap,.int .i64 a,.int .i64 b,.int .i64 limit] w λe w'=>e= .returned (.tuple #[])/\At jz w blk off (pdq ltInt d a b limit true true) w':=by
 intro N
 induction N with
 |zero=>intro _ _ _ _ _ _ _ _ h;exact absurd h (pf _)
 |succ N a4=>
  intro blk off cap a b limit d w bF Y U bh bi bO a2 a9;go_wp2
  go_loopg [1,2,3,8,9] (b-a) (λk s1 s2 s3 bB bD wr=> ∃(j u z:Nat) (wb wp:Bool) (y:Array Int),s1= .int .i64 j/\s2= .int .i64 u/\s3= .int .i64 z/\bB= .bool wb/\bD= .bool wp/\
   j<=u/\u<=d.size/\u-j<=k/\k<=b-a/\z<=limit/\y.size=d.size/\Below ltInt j u y/\At jz w blk off y wr/\pdq ltInt y j u z wb wp=pdq ltInt d a b limit true true)
  case atStart=>exact⟨a,b,limit,true,true,d,rfl,rfl,rfl,rfl,rfl,bh,bi,g9 _,g9 _,g9 _,rfl,a9,At.refl Y,rfl⟩
  case round=>
   obtain⟨j,u,z,wb,wp,y,rfl,rfl,rfl,rfl,rfl,ai,bj,bL,bM,ap,G,a8,ak,heq⟩:=hrel;obtain⟨aH,bk⟩:=ak.holds Y G U;have A:Aside (pdq ltInt y j u z wb wp=pdq ltInt d a b limit true true):=heq;clear heq;by_cases ah:u-j<=12
   ·
    have a6:(u:Int)-(j:Int)<=12:=UN;have ad:=C.ins blk off cap j u y wr aH ai UN UN;rw [G]at ad;go_wp2_with (go_at_call 206;refine ad.mono ?_;rintro e w1⟨rfl,aq⟩)
    (try simp only [Exit.inBlock,Exit.then]);refine iQ (TY rfl _ _ _) rfl ?_
    refine⟨rfl,?_⟩;rw [<-A.out,pdq_small ah];exact ak.step U (S.ins S.swo y j u ai UN).1.1 aq
   ·have a6: ¬((u:Int)-(j:Int)<=12):=by omega
    by_cases ao:z=0
    ·
     subst ao;have ad:=xd blk off d.size cap y G j u wr aH ai UN UN;go_wp2_with (go_at_call 207;refine ad.mono ?_;rintro e w1⟨rfl,aq⟩)
     (try simp only [Exit.inBlock,Exit.then]);refine iQ (TY rfl _ _ _) rfl ?_
     refine⟨rfl,?_⟩;rw [<-A.out,pdq_heap ah rfl];exact ak.step U (heapSort_holds S.swo y j u ai UN).1.1 aq
    ·have bN: ¬((z:Int)=0):=UN
     obtain⟨s1,B1,bK,s2,B2,ab,s3,aO⟩:=rd_facts (limit:=z) (wb:=wb) (wp:=wp) S.swo S.par reverseRange_holds (show j<u by omega) (show u<=y.size by omega) a8;go_upto_if 35 with fail;go_cut [3]from 19 (λs3 wc=>s3= .int .i64 (rd ltInt y j u z wb wp).lim/\At jz w blk off (rd ltInt y j u z wb wp).d1 wc)
     case first=>
      cases wb
      ·have ad:=C.brk blk off cap j u y wr aH bk ai UN UN
       rw [G]at ad;go_wp2_with (go_at_call 208;refine ad.mono ?_;rintro e w1⟨rfl,aq⟩)
       go_meet
       case rel=>
        refine⟨?_,ak.stepG U s1 aq⟩;show Value.int .i64 ((z:Int)-1)=Value.int .i64 ((z-1:Nat):Int);congr 1;omega
      ·go_wp2
       go_meet
       case rel=>exact⟨rfl,ak⟩
     case rest=>
      obtain⟨rfl,aT⟩:=hcut;obtain⟨bb,bm⟩:=aT.holds Y (s1.trans G) U;have bn:Calls prog 209 #[.slice (some ⟨blk,off,none⟩) d.size cap,.int .i64 j,.int .i64 u] wc λe w'=>e= .returned (.tuple #[.int .i64 (rd ltInt y j u z wb wp).c.1,.int .i64 (hintCode (rd ltInt y j u z wb wp).c.2)])/\ ∃n os,w'=grow (Sort.ahead wc n) os:=by
       have:=C.piv blk off cap j u (rd ltInt y j u z wb wp).d1 wc bb bm UN UN UN;rw [s1,G]at this;exact this
      go_upto_if 50 with(go_at_call 209;refine bn.mono ?_;rintro e w2⟨rfl,bt⟩);have aD:At jz w blk off (rd ltInt y j u z wb wp).d1 w2:=aT.same Y (s1.trans G) U bt;obtain⟨be,bG⟩:=aD.holds Y (s1.trans G) U;go_cut [11,12]from 19 (λbz aM wc=>bz= .int .i64 (rd ltInt y j u z wb wp).pivot/\aM= .int .i64 (hintCode (rd ltInt y j u z wb wp).hint)/\At jz w blk off (rd ltInt y j u z wb wp).d2 wc)
      case first=>
       by_cases hh:(rd ltInt y j u z wb wp).c.2= .decreasing
       ·have bo:hintCode (rd ltInt y j u z wb wp).c.2=2:=by rw [hh];rfl
        obtain⟨au,aA,az⟩:=rd_dec hh;have aY:=tB blk off cap (rd ltInt y j u z wb wp).d1 j u w2 be ai UN UN;rw [s1,G]at aY;go_wp2_with (go_at_call 210;refine aY.mono ?_;rintro e bP⟨rfl,bv⟩)
        go_meet
        case rel=>
         refine⟨?_,by rw [az];rfl,by rw [au];exact aD.step U (by rw [<-au,s2,s1]) bv⟩;rw [aA];congr 1;omega
       ·have bo: ¬(hintCode (rd ltInt y j u z wb wp).c.2=2):=λh=>hh (hintCode_two h)
        obtain⟨au,aA,az⟩:=rd_not hh;go_wp2;go_meet
        case rel=>exact⟨by rw [aA],by rw [az],by rw [au];exact aD⟩
      case rest=>
       obtain⟨rfl,rfl,aw⟩:=hcut;obtain⟨bf,bH⟩:=aw.holds Y (s2.trans G) U;go_upto_region 15 with fail;go_cut [12,68]from 19 (λaM bA ar=>aM= .int .i64 (hintCode (rd ltInt y j u z wb wp).hint)/\bA= .bool (wb&&wp&&decide ((rd ltInt y j u z wb wp).hint= .increasing))/\ar=wc)
       case first=>
        cases wb<;>cases wp<;>cases aJ:(rd ltInt y j u z _ _).hint<;>
         (have bp:=congrArg hintCode aJ
          simp only [hintCode]at bp;go_wp2;go_meet;exact⟨by simp [aJ,hintCode],by simp [aJ,hintCode],rfl⟩)
       case rest=>
        obtain⟨rfl,rfl,rfl⟩:=hcut;go_upto_if 68 with fail;go_cut []from 19 (λar=>(rd ltInt y j u z wb wp).pi.2=false/\At jz w blk off (rd ltInt y j u z wb wp).pi.1 ar)
        case first=>
         cases aQ:(wb&&wp&&decide ((rd ltInt y j u z wb wp).hint= .increasing))
         ·have ag:=rd_pi_no aQ
          go_wp2;go_meet
          case rel=>exact⟨by rw [ag],by rw [ag];exact aw⟩
         ·have ag:=rd_pi_yes aQ
          have aZ:=C.par blk off cap j u (rd ltInt y j u z wb wp).d2 wc bf UN UN UN;rw [s2,G,<-ag]at aZ;go_wp2_with (go_at_call 211;refine aZ.mono ?_;rintro e bQ⟨rfl,a3⟩)
          all_goals first
           |(have ae:(rd ltInt y j u z wb wp).pi.2=false:=by rw [ag];assumption
             go_meet;exact⟨ae,aw.step U (by rw [s3,s2]) a3⟩)
           |(have ae:(rd ltInt y j u z wb wp).pi.2=true:=by rw [ag];assumption
             (try simp only [Exit.inBlock,Exit.then]);refine iQ (TY rfl _ _ _) rfl ?_
             refine⟨rfl,?_⟩;rw [<-A.out,pdq_done ah ao ae];exact aw.step U (by rw [s3,s2]) a3)
        case rest=>
         obtain⟨ae,aE⟩:=hcut;obtain⟨aU,bI⟩:=aE.holds Y (s3.trans G) U;have bq: ∀t,t<d.size->wc.cell? ⟨blk,off+t,none⟩=some (.int .u64 (rd ltInt y j u z wb wp).pi.1[t]!):=λt ht=>(aU t UN).1;have br: ∀t,t<d.size->wc.frozen? ⟨blk,off+t,none⟩=false:=λt ht=>(aU t UN).2;go_upto_region 17 with fail;go_cut [87]from 19 (λbC ar=>bC= .bool (decide (j>0)&& !ltInt (rd ltInt y j u z wb wp).pi.1[j-1]! (rd ltInt y j u z wb wp).pi.1[(rd ltInt y j u z wb wp).pivot]!)/\At jz w blk off (rd ltInt y j u z wb wp).pi.1 ar)
         case first=>
          rcases vU j with aI|aI
          ·have bg:decide ((j:Int)>0)=false:=iH UN
           go_big_quiet (first|(go_at_call 212;refine Tw (hS _ _ _)));go_wp2;go_meet
           case rel=>exact⟨by simp [aI],aE.ahead nq⟩
          ·have bg:(j:Int)>0:=UN
           go_big_quiet (first|(go_at_call 212;refine Tw (hS _ _ _)));go_wp2;go_meet
           case rel=>exact⟨by simp [aI],aE.ahead nq⟩
         case rest=>
          obtain⟨rfl,aF⟩:=hcut;obtain⟨aV,bJ⟩:=aF.holds Y (s3.trans G) U;clear bq br
          cases av:(decide (j>0)&& !ltInt (rd ltInt y j u z wb wp).pi.1[j-1]! (rd ltInt y j u z wb wp).pi.1[(rd ltInt y j u z wb wp).pivot]!)
          ·
           obtain⟨mid,aj,V,K⟩: ∃mid aj V,partition ltInt (rd ltInt y j u z wb wp).pi.1 j u (rd ltInt y j u z wb wp).pivot=(mid,aj,V):=⟨(partition ltInt (rd ltInt y j u z wb wp).pi.1 j u (rd ltInt y j u z wb wp).pivot).1,(partition ltInt (rd ltInt y j u z wb wp).pi.1 j u (rd ltInt y j u z wb wp).pivot).2.1,(partition ltInt (rd ltInt y j u z wb wp).pi.1 j u (rd ltInt y j u z wb wp).pivot).2.2,rfl⟩;obtain⟨r1,r2,r3,ax,a5,bw,bx⟩:=round_part S.swo S.prt ab.1 ab.2 (show u<=(rd ltInt y j u z wb wp).pi.1.size by omega) aO K;have a1:=C.prt blk off cap j u (rd ltInt y j u z wb wp).pivot (rd ltInt y j u z wb wp).pi.1 wc aV ab.1 ab.2 UN UN;rw [s3,G,K]at a1;have X:Aside (partition ltInt (rd ltInt y j u z wb wp).pi.1 j u (rd ltInt y j u z wb wp).pivot=(mid,aj,V)):=K;clear K;go_upto_if 113 with(go_at_call 214;refine a1.mono ?_;rintro e ay⟨rfl,aK⟩);have K:=X.out;have aG:At jz w blk off V ay:=aF.step U r3 aK;obtain⟨aW,aX⟩:=aG.holds Y (r3.trans (s3.trans G)) U;by_cases aP:mid-j<u-mid
           ·have a7:(mid:Int)-(j:Int)<(u:Int)-(mid:Int):=UN
            have al:=a4 blk off cap j mid (rd ltInt y j u z wb wp).lim V ay UN aW aX UN UN UN (xF (iu rd_lim_le ap) a2) ax;rw [r3,s3,G]at al;obtain⟨af,aN⟩:=S.pdq S.swo V j mid (rd ltInt y j u z wb wp).lim true true UN UN ax;go_wp2_with (go_at_call 146;refine al.mono ?_;rintro e bE⟨rfl,aL⟩)
            go_roundg (u-(mid+1))
            case measure=>omega
            case rel=>
             refine⟨mid+1,u,(rd ltInt y j u z wb wp).lim,decide (mid-j>=(u-j) / 8),aj,pdq ltInt V j mid (rd ltInt y j u z wb wp).lim true true,US,rfl,rfl,?_,rfl,UN,UN,g9 _,UN,iu rd_lim_le ap,by rw [af.1,r3,s3,G],(bw _ af aN).1,aG.stepG U af.1 aL,?_⟩
             ·exact congrArg Value.bool (eighth UN UN)
             ·rw [<-A.out,pdq_left ah ao ae av (by rw [K];exact⟨r1,r2⟩) (by rw [K];exact aP),K]
           ·have a7: ¬((mid:Int)-(j:Int)<(u:Int)-(mid:Int)):=UN
            have al:=a4 blk off cap (mid+1) u (rd ltInt y j u z wb wp).lim V ay UN aW aX UN UN UN (xF (iu rd_lim_le ap) a2) a5;rw [r3,s3,G]at al;obtain⟨af,aN⟩:=S.pdq S.swo V (mid+1) u (rd ltInt y j u z wb wp).lim true true UN UN a5;go_wp2_with (go_at_call 146;refine al.mono ?_;rintro e bE⟨rfl,aL⟩)
            go_roundg (mid-j)
            case measure=>omega
            case rel=>
             refine⟨j,mid,(rd ltInt y j u z wb wp).lim,decide (u-mid>=(u-j) / 8),aj,pdq ltInt V (mid+1) u (rd ltInt y j u z wb wp).lim true true,rfl,rfl,rfl,?_,rfl,UN,UN,g9 _,UN,iu rd_lim_le ap,by rw [af.1,r3,s3,G],(bx _ af aN).1,aG.stepG U af.1 aL,?_⟩
             ·exact congrArg Value.bool (eighth UN UN)
             ·rw [<-A.out,pdq_right ah ao ae av (by rw [K];exact⟨r1,r2⟩) (by rw [K];exact aP),K]
          ·
           have aC:=av;simp only [kg,jk,Bool.not_eq_true']at aC;obtain⟨mid,V,K⟩: ∃mid V,partitionEqual ltInt (rd ltInt y j u z wb wp).pi.1 j u (rd ltInt y j u z wb wp).pivot=(mid,V):=⟨(partitionEqual ltInt (rd ltInt y j u z wb wp).pi.1 j u (rd ltInt y j u z wb wp).pivot).1,(partitionEqual ltInt (rd ltInt y j u z wb wp).pi.1 j u (rd ltInt y j u z wb wp).pivot).2,rfl⟩;obtain⟨r1,r2,r3,ax,_⟩:=round_eq S.swo S.peq aC.1 ab.1 ab.2 (show u<=(rd ltInt y j u z wb wp).pi.1.size by omega) aO aC.2 K;have a0:=C.peq blk off cap j u (rd ltInt y j u z wb wp).pivot (rd ltInt y j u z wb wp).pi.1 wc aV ab.1 ab.2 UN UN;rw [s3,G,K]at a0;have X:Aside (partitionEqual ltInt (rd ltInt y j u z wb wp).pi.1 j u (rd ltInt y j u z wb wp).pivot=(mid,V)):=K;clear K;go_wp2_with (go_at_call 213;refine a0.mono ?_;rintro e ay⟨rfl,aK⟩)
           go_roundg (u-mid)
           case measure=>omega
           case rel=>
            have K:=X.out;exact⟨mid,u,(rd ltInt y j u z wb wp).lim,wb,wp,V,rfl,rfl,rfl,rfl,rfl,r2,bj,g9 _,UN,iu rd_lim_le ap,by rw [r3,s3,G],ax,aF.step U r3 aK,by rw [<-A.out,pdq_eq ah ao ae av (by rw [K];exact⟨r1,r2⟩),K]⟩
def CP:Prop:= ∀(blk off cap a b limit:Nat) (d:Array Int) (w:World),Holds (Value.int .u64) w blk off d->blk<w.heap.size->a<=b->b<=d.size->d.size<4611686018427387904->limit<4611686018427387904->Below ltInt a b d->
 Calls prog 146 #[.slice (some ⟨blk,off,none⟩) d.size cap,.int .i64 a,.int .i64 b,.int .i64 limit] w λe w'=>
  e= .returned (.tuple #[])/\ ∃n os,w'=grow (putRow (Value.int .u64) (Sort.ahead w n) blk off (Sort.pdq ltInt d a b limit true true)) os
theorem Dh (G:CP)(blk off cap:Nat)(d:Array Int)(w:World)(j:Holds (Value.int .u64) w blk off d)(z:blk<w.heap.size)(K:d.size<4611686018427387904):
 Calls prog 96 #[.slice (some ⟨blk,off,none⟩) d.size cap] w λe w'=>e= .returned (.tuple #[])/\ ∃n os,w'=grow (putRow (Value.int .u64) (Sort.ahead w n) blk off (Sort.sort ltInt d)) os:=by
 have u:Hid (Holds (Value.int .u64) w blk off d):=j;clear j;have y: ∀w,Calls prog 147 #[.int .u64 (d.size:Int)] w λe w'=>e= .returned (.int .i64 (bitsLen d.size:Nat))/\w'=w:=λw=>by
  have h:=sP (d.size:Int) w UN UN
  rwa [jJ,bitLen_eq _ UN]at h
 have U:bitsLen d.size<=62:=(bitsLen_le_iff d.size 62).2 UN;go_in
 go_wp2_with (first
  |(go_at_call 147;refine(y _).mono ?_;rintro e w'⟨rfl,rfl⟩)
  |(go_at_call 146;refine(G blk off cap 0 d.size (bitsLen d.size) d _ (by exact u.out) (by exact z) (iy _) (g9 _) K UN (lF rfl)).mono ?_;rintro e w'⟨rfl,n,os,rfl⟩))
 go_end0;exact⟨rfl,n,os,rfl⟩
theorem JM:Dd where
 ins:=tk
 brk:=tl
 piv:=ue
 par:=pz
 peq:=o8
 prt:=rg
theorem MB:Plain13 where
 swo:=swo_ltInt
 ins:=insertionSort_holds
 par:=partialInsertionSort_holds
 prt:=partition_holds _
 peq:=partitionEqual_holds _
 pdq:=pdq_sorts _
theorem PN:CP:=λblk off cap a b limit d w u z y G U K j=>
 y4 JM MB (b-a+1) blk off cap a b limit d w UN u z y G U K j
theorem I3 (j:List Int):Sort.sort ltInt j.toArray=(j.mergeSort λx y=>decide (x<=y)).toArray:=by
 rw [<-sortInt j]
theorem GF (blk off cap:Nat)(j:List Int)(w:World)(u:Holds (Value.int .u64) w blk off j.toArray)(z:blk<w.heap.size)(G:j.length<4611686018427387904):
 Calls prog 96 #[.slice (some ⟨blk,off,none⟩) j.length cap] w λe w'=>
  e= .returned (.tuple #[])/\ ∃n os,w'=grow (putRow (Value.int .u64) (Sort.ahead w n) blk off (j.mergeSort λx y=>decide (x<=y)).toArray) os:=by
 have h:=Dh PN blk off cap j.toArray w u z (by simpa using G);rw [I3]at h;simpa using h
open Go.ChangeShapes Go.WideShapes Go.ChangeAt
theorem qK (p:UP)(cap:Nat)(w:World):
 Calls prog 206 #[.slice p 0 cap,I0,I0] w λe w'=>e= .returned (.tuple #[])/\w'=w:=by
 go_wp2;refine wp_loop_rounds 1 ?_;rw [rounds_succ];go_wp2;go_end0;exact⟨rfl,rfl⟩
theorem ud (p:UP)(cap:Nat)(w:World):
 Calls prog 146 #[.slice p 0 cap,I0,I0,I0] w λe w'=>e= .returned (.tuple #[])/\w'=w:=by
 go_wp2;refine wp_loop_rounds 1 ?_;rw [rounds_succ];go_wp2_with (first|(go_at_call 206;refine(qK p cap _).mono ?_;rintro e w'⟨rfl,rfl⟩))
 refine iQ (TY rfl _ _ _) rfl ?_;exact⟨rfl,rfl⟩
theorem xe (p:UP)(cap:Nat)(w:World):
 Calls prog 96 #[.slice p 0 cap] w λe w'=>e= .returned (.tuple #[])/\w'=w:=by
 have j: ∀w,Calls prog 147 #[U0] w λe w'=>e= .returned I0/\w'=w:=λw=>sP 0 w UN UN;go_in
 go_wp2_with (first
  |(go_at_call 147;refine(j _).mono ?_;rintro e w'⟨rfl,rfl⟩)
  |(go_at_call 146;refine(ud p cap _).mono ?_;rintro e w'⟨rfl,rfl⟩))
 go_end0;exact⟨rfl,rfl⟩
theorem heap_put (enc:Int->Value){w:World}{n g:Nat}{d:Array Int}{cur:Array Value}{e:TypeId}{fr:Nat×Nat}(h:w.heap[g]? =some (.cells cur e fr)):(putRow enc (Sort.ahead w n) g 0 d).heap[g]? =some (.cells (putCells enc 0 d cur) e fr):=by
 show(w.heap.modify g (onCells _))[g]? =_;rw [T8,g7 rfl,h];rfl
theorem za (enc:Int->Value){w:World}{n g k:Nat}{d:Array Int}(h:k≠g):(putRow enc (Sort.ahead w n) g 0 d).heap[k]? =w.heap[k]? :=by
 show(w.heap.modify g (onCells _))[k]? =_;rw [T8,g3 (nB h)]
theorem IW (d:List Int)(cur:Array Value)(h:d.length<=cur.size):(putCells (Value.int .u64) 0 d.toArray cur).toList.take d.length=d.map (Value.int .u64):=by
 refine Um (by simp [putCells];omega) λi h1 h2=> ?_;have hi:i<d.length:=by simpa using h2
 simp only [putCells,Uk,Array.getElem_toList,Array.getElem_mapIdx,Ul,iy,Ux,nC,List.size_toArray,hi,if_true,Nat.sub_zero];rw [getElem!_pos d.toArray i (by simpa using hi)];simp
theorem Own.holds {B g cap:Nat}{e:TypeId}{F:UO}{w:World}{l:List Int}(h:Own ib B e F w (.slice (some ⟨g,0,none⟩) l.length cap) l):Holds (Value.int .u64) w g 0 l.toArray:=λj y=>by
 have ab:j<l.length:=by simpa using y
 obtain⟨Y,V,css,S,G, -, -, -,z,ad, -,hr⟩:=h.Ib UN;simp only [mJ,pd,qd]at G;obtain⟨⟨rfl, -⟩, -⟩:=G;have c:=z.get j 0 UN (by decide);have u:=(hr j (css[j]' UN) l[j] (z2 _) (z2 _)).1;have U:ib.n=1:=rfl;have K:(css[j]' UN)[0]'(by rw [u];simp)= .int .u64 l[j]:=by simp only [u,List.getElem_cons_zero]
 rw [K]at c;simp only [U,qP,xE]at c;refine⟨?_,?_⟩
 ·rw [nC,c,getElem!_pos l.toArray j y];simp
 ·rw [nC];exact z.AY j
theorem Own.putRow {B g cap:Nat}{e:TypeId}{F:UO}{w:World}{l j:List Int}(h:Own ib B e F w (.slice (some ⟨g,0,none⟩) l.length cap) l)(V:j.length=l.length)(U: ∀x∈j,iZ x)(n:Nat)(os:Array Obj):
 Own ib B e F (grow (Go.Sort.putRow (Value.int .u64) (Sort.ahead w n) g 0 j.toArray) os) (.slice (some ⟨g,0,none⟩) l.length cap) j/\Kept (λk=>k≠g) w (grow (Go.Sort.putRow (Value.int .u64) (Sort.ahead w n) g 0 j.toArray) os):=by
 obtain⟨S,css,ao,ai,aq,hr,af⟩:=h;rcases af.2 with⟨h1, -⟩|⟨ak,aj,cur,h1,ad,z,h2,ab,y,al⟩
 ·simp at h1
 ·simp only [mJ,pd,qd]at h1
  obtain⟨⟨rfl, -⟩, -,rfl⟩:=h1;have u:ib.n=1:=rfl;have hlt:=ii z;have ah:(Go.Sort.putRow (Value.int .u64) (Sort.ahead w n) g 0 j.toArray).heap.size=w.heap.size:=(by show(w.heap.modify g (onCells _)).size=_;simp);have K:(grow (Go.Sort.putRow (Value.int .u64) (Sort.ahead w n) g 0 j.toArray) os).heap[g]? =some (.cells (putCells (Value.int .u64) 0 j.toArray cur) e (0,0)):=by
   rw [heap_grow_old _ _ UN,heap_put _ z]
  have ap:cur.size=cap:=(by rw [y,u,qP]);refine⟨⟨λ_=>False,j.map λx=> [.int .u64 x],λ_ h=>h.elim,λk G=>⟨λh=>h,(ai k G).2⟩,US,λi cs x h1 h2=> ?_,?_,.inr ⟨g,cap,_,by rw [V],ad,K,UN,ab,by simp [putCells,y],?_⟩⟩,?_⟩
  ·rw [List.getElem?_map,h2]at h1
   obtain rfl:=jR h1;exact⟨rfl,U x (Uc h2)⟩
  ·rw [u,qP,List.length_flatten,List.map_map]
   have ag: ∀q:List Int,(q.map λ_=>1).sum=q.length:=λq=>by induction q with
    |nil=>rfl
    |cons a q Y=>rw [UG,List.sum_cons,Y,Tz];omega
   exact ag j
  ·rw [u,qP,IW j cur UN]
   clear V U K
   induction j with
   |nil=>rfl
   |cons x j Y=>simp_all
  ·exact⟨rfl,rfl,rfl,by show _<=((Go.Sort.putRow _ _ _ _ _).heap++os).size;rw [Array.size_append,ah];omega,λk G ae=>by rw [heap_grow_old _ _ UN,za _ ae]⟩
theorem GG (B:Nat)(F:UO)(w:World)(a:UP)(cap:Nat)(l:List Int)(ad:l.length<=1000000)(h:Own ib B 24 F w (.slice a l.length cap) l):
 Calls prog 96 #[.slice a l.length cap] w λe w'=>e= .returned (.tuple #[])/\ ∃L,L.Perm l/\L.Pairwise (· <= ·)/\Own ib B 24 F w' (.slice a l.length cap) L/\Kept (λk=>(Value.slice a l.length cap).ownBlock≠some k) w w':=by
 have Y: ∀x∈l,iZ x:=λx u=>by
  obtain⟨S,css, -, -,ab,hr, -⟩:=h;obtain⟨i,hi,rfl⟩:=TH u;exact(hr i (css[i]' UN) l[i] (z2 _) (z2 _)).2
 cases a with
 |none=>
  have U:l= []:=by
   obtain⟨S,css, -, -, -, -,j⟩:=h;rcases j.2 with⟨-,h1⟩|⟨z,K,cur,h1, -⟩
   ·exact T5 h1
   ·simp at h1
  subst U;refine(xe none cap w).mono ?_;rintro e w'⟨rfl,rfl⟩;exact⟨rfl,[],List.Perm.refl _,T',h,Kept.refl _ _⟩
 |some G=>
  obtain⟨g,rfl⟩: ∃g,G=⟨g,0,none⟩:=by
   obtain⟨S,css, -, -, -, -,j⟩:=h;rcases j.2 with⟨h1, -⟩|⟨z,K,cur,h1, -⟩
   ·simp at h1
   ·simp only [mJ,pd]at h1
    exact⟨z,h1.1⟩
  have hlt:g<w.heap.size:=(h.lt (k:=g) rfl).1;refine(GF g 0 cap l w h.holds hlt UN).mono ?_;rintro e w'⟨rfl,n,os,rfl⟩;have hperm:=List.mergeSort_perm l λx y=>decide (x<=y);obtain⟨h1,h2⟩:=Own.putRow h hperm.length_eq (λx u=>Y x (hperm.mem_iff.1 u)) n os;refine⟨rfl,_,hperm,?_,h1,h2.mono λk _ V e=>V (by rw [e];rfl)⟩;have:=List.pairwise_mergeSort (le:=λx y:Int=>decide (x<=y)) (λa b c h1 h2=>by simp only [jk]at*;omega) (λa b=>by simp only [Bool.or_eq_true,jk];omega) l;exact this.imp λh=>by simpa using h
end Go.Proofs.YtjdiofjjoefnhaaGreatDoor
