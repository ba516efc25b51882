/- Contracts of the rules' functions: txcheck.Rules, the reference's Rules, both parameter checks, and awake, for all values of the fields; no conditions. -/
import Derived.Test.YtjknlhiimmbilaaGreatDoorProg
import Derived.Test.YtjknlhiimmbilaaGreatDoorMKit
import Derived.WalkSpells
import Derived.Deep.RegionHeld3
import Derived.Deep.QuietTactic
import Derived.BigQuiet
import Derived.Deep.RegionLaw
import Derived.Lib.Mul64
import Derived.Laws.Bits64b
import Derived.Laws.Externs
import Derived.Shelf.Bits.Mul64
import Derived.Laws.CopyOwn
set_option maxRecDepth 100000
set_option maxHeartbeats 1000000
namespace Go.Proofs.YtjknlhiimmbilaaGreatDoor
open Go.ChangeShapes Go.WideShapes Go.ChangeAt Go.RowKit
theorem _root_.Go.RowKit.Below.new {a b:World}(h:Below a.heap.size a b)(o:Obj):Below a.heap.size a (b.alloc o):=h.alloc h.size o
def paramsB (a b c:Int):Bool:=
 decide (2≤a∧a≤256∧bits BinOp.and IntKind.i64 a (a-1)=0∧(b=1∨b=2∨b=4∨b=8)∧1≤c∧c≤64)
theorem params_any (a b c:Int)(w:World):
   Calls Tryz.prog 60 #[.agg #[.int .i64 a,.int .i64 b,.int .i64 c]] w fun e w'=>e= .returned (.bool (paramsB a b c))∧Below w.heap.size w w':=by
 go_enter Tryz.func60,Tryz.ntmps60
 go_wp2
 all_goals go_ret
 all_goals refine⟨ret_bool ?_,(Below.refl _ _).alloc (Nat.le_refl _) _⟩
 all_goals unfold paramsB
 all_goals first
   |exact(decide_eq_true (by omega)).symm
   |exact(decide_eq_false (by omega)).symm
   |exact decide_eq_decide.2 (by omega)
def rulesB (m d bl bu q rew win fin work:Int):Bool:=
 decide ((1≤m∧m≤3∧1≤d∧d≤12∧1≤win∧win≤100∧1≤fin∧fin≤1048576∧rew≤4294967296∧1≤work∧work≤65536)∧(m=1→paramsB bl bu q=true))
def rulesE (m d bl bu q rew win fin work:Int):Int:=if rulesB m d bl bu q rew win fin work=true then 0 else 1
theorem rulesE_one {m d bl bu q rew win fin work:Int}
   (h: ¬(1≤m∧m≤3∧1≤d∧d≤12∧1≤win∧win≤100∧1≤fin∧fin≤1048576∧rew≤4294967296∧1≤work∧work≤65536)):
   1=rulesE m d bl bu q rew win fin work:=by
 unfold rulesE rulesB;rw [if_neg (by rw [decide_eq_true_eq];exact fun g=>h g.1)]
theorem rulesE_bad {m d bl bu q rew win fin work:Int}(h1:m=1)(h:(!paramsB bl bu q)=true):
   1=rulesE m d bl bu q rew win fin work:=by
 unfold rulesE rulesB;rw [if_neg (by rw [decide_eq_true_eq];intro g;have:=g.2 h1;simp [this]at h)]
theorem rulesE_zero {m d bl bu q rew win fin work:Int}
   (h:1≤m∧m≤3∧1≤d∧d≤12∧1≤win∧win≤100∧1≤fin∧fin≤1048576∧rew≤4294967296∧1≤work∧work≤65536)
   (h1:m=1→paramsB bl bu q=true):0=rulesE m d bl bu q rew win fin work:=by
 unfold rulesE rulesB;rw [if_pos (by rw [decide_eq_true_eq];exact⟨h,h1⟩)]
theorem rules_any (m d bl bu q rew win fin work:Int)(w:World):
   Calls Tryz.prog 27 #[.agg #[.int .i64 m,.int .i64 d,.int .i64 bl,.int .i64 bu,.int .i64 q,.int .u64 rew,.int .i64 win,.int .i64 fin,.int .u64 work]] w fun e w'=>e= .returned (.int .i64 (rulesE m d bl bu q rew win fin work))∧Below w.heap.size w w':=by
 go_enter Tryz.func27,Tryz.ntmps27
 go_wp2_with (go_at_call 60;refine(params_any _ _ _ _).mono ?_;rintro e w' ⟨rfl,hb⟩)
 all_goals go_ret
 all_goals refine⟨ret_int ?_,?_⟩
 all_goals first
   |exact(Below.refl _ _).alloc (Nat.le_refl _) _
   |exact((Below.refl _ _).alloc (Nat.le_refl _) _).trans (hb.mono (by simp))
   |exact rulesE_one (by omega)
   |exact rulesE_bad ‹_› ‹_›
   |exact rulesE_zero (by omega) (fun h=>by omega)
   |exact rulesE_zero (by omega) (fun h=>by simpa using ‹(!paramsB bl bu q)=false›)
end Go.Proofs.YtjknlhiimmbilaaGreatDoor
/- Contracts of the reference's rules, for all values of the fields; no conditions. -/
set_option maxRecDepth 100000
set_option maxHeartbeats 1000000
namespace Go.Proofs.YtjknlhiimmbilaaGreatDoor
open Go.ChangeShapes Go.WideShapes Go.ChangeAt Go.RowKit
def pow2B (lo:Int):Nat→Int→Bool
 |0,_=>false
 |k+1,a=>pow2B lo k a||(a==lo*2^k)
theorem pow2B_succ (lo:Int)(k:Nat)(a:Int):pow2B lo (k+1) a=(pow2B lo k a||(a==lo*2^k)):=rfl
def refParamsB (a b c:Int):Bool:=pow2B 2 8 a&&pow2B 1 4 b&&decide (1≤c)&&decide (c≤64)
theorem and_self_small: ∀n:Fin 257,bits BinOp.and IntKind.i64 (n.val:Int) ((n.val:Int)-1)=0↔(n.val=0∨pow2B 1 9 (n.val:Int)=true):=by
 decide+kernel
theorem pow2B_2 (a:Int):pow2B 2 8 a=true↔a=2∨a=4∨a=8∨a=16∨a=32∨a=64∨a=128∨a=256:=by
 simp [pow2B];omega
theorem pow2B_1 (a:Int):pow2B 1 9 a=true↔a=1∨a=2∨a=4∨a=8∨a=16∨a=32∨a=64∨a=128∨a=256:=by
 simp [pow2B];omega
theorem pow2B_4 (a:Int):pow2B 1 4 a=true↔a=1∨a=2∨a=4∨a=8:=by
 simp [pow2B];omega
theorem params_same (a b c:Int):paramsB a b c=refParamsB a b c:=by
 unfold paramsB refParamsB;rw [Bool.eq_iff_iff]
 simp only [decide_eq_true_eq,Bool.and_eq_true,pow2B_2,pow2B_4]
 by_cases h:2≤a∧a≤256
 · obtain⟨n,rfl⟩:=Int.eq_ofNat_of_zero_le (show 0≤a by omega)
   have:=and_self_small ⟨n,by omega⟩
   simp only [pow2B_1]at this
   rw [this]
   omega
 · constructor
   · rintro⟨h1,h2,_⟩;exact absurd ⟨h1,h2⟩ h
   · rintro⟨⟨⟨h1,_⟩,_⟩,_⟩;omega
theorem pw8: ∀k:Fin 9,((2*2^k.val:Int)≤256↔k.val<8)∧2≤(2*2^k.val:Int)∧(2*2^k.val:Int)≤512:=by decide+kernel
theorem pw4: ∀k:Fin 5,((1*2^k.val:Int)≤8↔k.val<4)∧1≤(1*2^k.val:Int)∧(1*2^k.val:Int)≤16:=by decide+kernel
theorem refParams_any (a b c:Int)(w:World):
   Calls Tryz.prog 61 #[.agg #[.int .i64 a,.int .i64 b,.int .i64 c]] w fun e w'=>e= .returned (.bool (refParamsB a b c))∧Below w.heap.size w w':=by
 go_enter Tryz.func61,Tryz.ntmps61
 go_wp2
 go_loop [3,5] (fun t i=> ∃(k:Nat) (m:Int),k≤8∧Hid (m=2*2^k)∧i= .int .i64 m∧t= .bool (pow2B 2 k a)) (fun _ i=>(512-intOf i).toNat)
 case atStart=>exact⟨0,2,by omega,rfl,rfl,rfl⟩
 case round=>
   obtain⟨k,m,hk,hm,rfl,rfl⟩:=hrel
   have hp:=pw8 ⟨k,by omega⟩
   simp only at hp
   rw [←hm.out]at hp;obtain⟨hp1,hp2,hp3⟩:=hp;have HP:=Hd hp1;clear hp1;have hs:=Hd (pow2B_succ 2 k a)
   have hm2:Hid (2*m=2*2^(k+1)):=by show _=_;rw [hm.out,Int.pow_succ];omega
   by_cases hlt:m≤256
   · have hk8:=HP.out.1 hlt
     go_wp2
     all_goals
       go_round
       case rel=>
         refine⟨k+1,2*m,by omega,hm2,rfl,?_⟩
         rw [hs.out,←hm.out]
         simp [*]
       case measure=>simp [intOf];omega
   · have hk8:k=8:=by have:=HP.out;omega
     subst hk8;clear HP hm2 hs;generalize hbl:pow2B 2 8 a=bl;have HBL:=Hd hbl;clear hbl
     go_wp2
     go_loop [4,6] (fun t i=> ∃(k:Nat) (m:Int),k≤4∧Hid (m=1*2^k)∧i= .int .i64 m∧t= .bool (pow2B 1 k b)) (fun _ i=>(16-intOf i).toNat)
     case atStart=>exact⟨0,1,by omega,rfl,rfl,rfl⟩
     case round=>
       obtain⟨k,m,hk,hm,rfl,rfl⟩:=hrel
       have hp:=pw4 ⟨k,by omega⟩
       simp only at hp
       rw [←hm.out]at hp;obtain⟨hp1,hp2,hp3⟩:=hp;have HP:=Hd hp1;clear hp1;have hs:=Hd (pow2B_succ 1 k b)
       have hm2:Hid (2*m=1*2^(k+1)):=by show _=_;rw [hm.out,Int.pow_succ];omega
       by_cases hlt:m≤8
       · have hk8:=HP.out.1 hlt
         go_wp2
         all_goals
           go_round
           case rel=>
             refine⟨k+1,2*m,by omega,hm2,rfl,?_⟩
             rw [hs.out,←hm.out]
             simp [*]
           case measure=>simp [intOf];omega
       · have hk8:k=4:=by have:=HP.out;omega
         subst hk8;clear HP hm2 hs;generalize hbu:pow2B 1 4 b=bu;have HBU:=Hd hbu;clear hbu
         go_wp2
         all_goals go_ret
         all_goals refine⟨ret_bool ?_,(Below.refl _ _).alloc (Nat.le_refl _) _⟩
         all_goals unfold refParamsB
         all_goals rw [HBL.out,HBU.out]
         all_goals first
           |(simp [*];done)
           |(simp [*];omega)
theorem rulesE_bad2 {m d bl bu q rew win fin work:Int} (h1:m=1) (a:rew≤4294967296) (b:1≤work) (c:work≤65536)
   (h:((4294967296<rew∨work<1)∨65536<work)∨(!paramsB bl bu q)=true):1=rulesE m d bl bu q rew win fin work:=
 rulesE_bad h1 (by rcases h with h|h;· exfalso;omega
                   · exact h)
theorem rulesE_zero2 {m d bl bu q rew win fin work:Int}
   (h:1≤m∧m≤3∧1≤d∧d≤12∧1≤win∧win≤100∧1≤fin∧fin≤1048576∧rew≤4294967296∧1≤work∧work≤65536)
   (h1:((rew≤4294967296∧1≤work)∧work≤65536)∧(!paramsB bl bu q)=false):0=rulesE m d bl bu q rew win fin work:=
 rulesE_zero h (fun _=>by simpa using h1.2)
theorem refRules_any (m d bl bu q rew win fin work:Int)(w:World):
   Calls Tryz.prog 29 #[.agg #[.int .i64 m,.int .i64 d,.int .i64 bl,.int .i64 bu,.int .i64 q,.int .u64 rew,.int .i64 win,.int .i64 fin,.int .u64 work]] w fun e w'=>e= .returned (.int .i64 (rulesE m d bl bu q rew win fin work))∧Below w.heap.size w w':=by
 go_enter Tryz.func29,Tryz.ntmps29
 go_wp2_with (go_at_call 61;refine(refParams_any _ _ _ _).mono ?_;rintro e w' ⟨rfl,hb⟩;rw [←params_same])
 all_goals go_ret
 all_goals refine⟨ret_int ?_,?_⟩
 all_goals first
   |exact(Below.refl _ _).alloc (Nat.le_refl _) _
   |exact((Below.refl _ _).alloc (Nat.le_refl _) _).trans (hb.mono (by simp))
   |exact rulesE_one (by omega)
   |exact rulesE_bad ‹_› ‹_›
   |exact rulesE_zero (by omega) (fun h=>by omega)
   |exact rulesE_bad2 ‹_› ‹_› ‹_› ‹_› ‹_›
   |exact rulesE_zero2 (by omega) ‹_›
end Go.Proofs.YtjknlhiimmbilaaGreatDoor
/- The field's small functions at the big prime. -/
set_option maxRecDepth 100000
set_option maxHeartbeats 1000000
namespace Go.Proofs.YtjknlhiimmbilaaGreatDoor
open Go.ChangeShapes Go.WideShapes Go.ChangeAt Go.RowKit
theorem valid_big (w:World):Calls Tryz.prog 143 #[.agg #[.int .u64 18446744069414584321]] w fun e w'=>e= .returned (.bool true)∧Below w.heap.size w w':=by
 go_enter Tryz.func143,Tryz.ntmps143
 go_wp2
 go_ret
 exact⟨rfl,bnew (Below.refl _ _) _⟩
theorem numbers_big (w:World):Calls Tryz.prog 306 #[.agg #[.int .u64 18446744069414584321]] w fun e w'=>e= .returned (.tuple #[.int .u64 7,.int .i64 32,.int .u64 7])∧Below w.heap.size w w':=by
 go_enter Tryz.func306,Tryz.ntmps306
 go_wp2
 go_ret3
 exact⟨rfl,bnew (Below.refl _ _) _⟩
theorem exponent_big (w:World):Calls Tryz.prog 245 #[.agg #[.int .u64 18446744069414584321]] w fun e w'=>e= .returned (.int .u64 7)∧Below w.heap.size w w':=by
 go_enter Tryz.func245,Tryz.ntmps245
 go_wp2_with fail
 refine(numbers_big _).mono ?_
 rintro e w1 ⟨rfl,hb⟩
 go_wp2
 go_ret
 exact⟨rfl,bnext (bnew (Below.refl _ _) _) hb⟩
theorem reduced_big (n:Int)(h0:0≤n)(w:World):Calls Tryz.prog 243 #[.agg #[.int .u64 18446744069414584321],.int .u64 n] w fun e w'=>e= .returned (.int .u64 (redP n))∧Below w.heap.size w w':=by
 by_cases h:n<18446744069414584321
 · go_enter Tryz.func243,Tryz.ntmps243
   go_wp2
   go_ret
   exact⟨ret_int (redP_small h0 h).symm,bnew (Below.refl _ _) _⟩
 · go_enter Tryz.func243,Tryz.ntmps243
   go_wp2
   go_ret
   exact⟨ret_int (by unfold redP;rfl),bnew (Below.refl _ _) _⟩
theorem add64_eq (x y s c:Int)(hx:0≤x)(hy:0≤y)(hs:(x+y) % 18446744073709551616=s)(hc:(x+y) / 18446744073709551616=c)(w:World):
   (callFunc 305 #[.int .u64 x,.int .u64 y,.int .u64 0]).run Tryz.prog w= .ok (.value (.tuple #[.int .u64 s,.int .u64 c])) w:=by
 rw [run_callFunc_extern Tryz.func305 (by kernel_rfl) (by kernel_rfl) (by kernel_rfl) (e:=add64Entry) (by kernel_rfl),run_add64 x y 0 hx hy (by omega) (by omega),Int.add_zero,hs,hc]
 rfl
theorem add_big (a b:Int)(a0:0≤a)(a1:a<18446744069414584321)(b0:0≤b)(b1:b<18446744069414584321)(w:World):
   Calls Tryz.prog 242 #[.agg #[.int .u64 18446744069414584321],.int .u64 a,.int .u64 b] w fun e w'=>e= .returned (.int .u64 (addP a b))∧Below w.heap.size w w':=by
 by_cases h1:a+b<18446744069414584321
 · have hd:=add64_eq a b (a+b) 0 a0 b0 (by omega) (by omega)
   have HR:Hid (addP a b=a+b):=by show _=_;unfold addP;omega
   go_enter Tryz.func242,Tryz.ntmps242
   go_wp2
   go_ret
   exact⟨ret_int (by rw [HR.out]),bnew (Below.refl _ _) _⟩
 · by_cases h2:a+b<18446744073709551616
   · have hd:=add64_eq a b (a+b) 0 a0 b0 (by omega) (by omega)
     have HR:Hid (addP a b=a+b-18446744069414584321):=by show _=_;unfold addP;omega
     go_enter Tryz.func242,Tryz.ntmps242
     go_wp2
     go_ret
     exact⟨ret_int (by rw [HR.out]),bnew (Below.refl _ _) _⟩
   · have hd:=add64_eq a b (a+b-18446744073709551616) 1 a0 b0 (by omega) (by omega)
     have HR:Hid (addP a b=IntKind.u64.wrap (a+b-18446744073709551616-18446744069414584321)):=by
       show _=_;unfold addP;rw [IntKind.wrap_u64];omega
     go_enter Tryz.func242,Tryz.ntmps242
     go_wp2
     go_ret
     exact⟨ret_int (by rw [HR.out]),bnew (Below.refl _ _) _⟩
def hiOf (x y:Int):Int:=x*y / 18446744073709551616
def loOf (x y:Int):Int:=x*y % 18446744073709551616
theorem mul64_nat (x y:Nat)(hx:x<18446744073709551616)(hy:y<18446744073709551616)(w:World):
   Calls Tryz.prog 235 #[.int .u64 x,.int .u64 y] w fun e w'=>e= .returned (.tuple #[.int .u64 ((x*y / 18446744073709551616:Nat):Int),.int .u64 ((x*y % 18446744073709551616:Nat):Int)])∧w'=w:=by
 obtain⟨bd,bt,bw,hhi⟩:=Lib.mul64_hi x y hx hy
 have ba:=Lib.half_mul_le (a:=x / 4294967296) (b:=y / 4294967296) (by omega) (by omega)
 have bb:=Lib.half_mul_le (a:=x / 4294967296) (b:=y % 4294967296) (by omega) (by omega)
 have bc:=Lib.half_mul_le (a:=x % 4294967296) (b:=y / 4294967296) (by omega) (by omega)
 have ba':x / 4294967296*(y / 4294967296)<18446744073709551616:=by omega
 have bb':x / 4294967296*(y % 4294967296)<18446744073709551616:=by omega
 have bc':x % 4294967296*(y / 4294967296)<18446744073709551616:=by omega
 have bh1:x / 4294967296*(y / 4294967296)+(x / 4294967296*(y % 4294967296)+x % 4294967296*(y % 4294967296) / 4294967296) / 4294967296<18446744073709551616:=by omega
 have bh:x / 4294967296*(y / 4294967296)+(x / 4294967296*(y % 4294967296)+x % 4294967296*(y % 4294967296) / 4294967296) / 4294967296+((x / 4294967296*(y % 4294967296)+x % 4294967296*(y % 4294967296) / 4294967296) % 4294967296+x % 4294967296*(y / 4294967296)) / 4294967296<18446744073709551616:=by omega
 go_enter Tryz.func235,Tryz.ntmps235
 go_wp2
 simp only [Mul64.maskN x hx,Mul64.maskN y hy,Mul64.divN,Mul64.mulN,Mul64.addN,Mul64.wrapN _ bd,Mul64.wrapN _ bb',Mul64.wrapN _ bt,Mul64.maskN _ bt,Mul64.wrapN _ bc',Mul64.wrapN _ bw,Mul64.wrapN _ ba',Mul64.wrapN _ bh1,Mul64.wrapN _ bh,Mul64.wrapM (x*y)]
 rw [hhi];go_ret2
 exact⟨rfl,rfl⟩
theorem mul64_any (x y:Int)(x0:0≤x)(x1:x<18446744073709551616)(y0:0≤y)(y1:y<18446744073709551616)(w:World):
   Calls Tryz.prog 235 #[.int .u64 x,.int .u64 y] w fun e w'=>e= .returned (.tuple #[.int .u64 (hiOf x y),.int .u64 (loOf x y)])∧w=w':=by
 obtain⟨x,rfl⟩:=Int.eq_ofNat_of_zero_le x0;obtain⟨y,rfl⟩:=Int.eq_ofNat_of_zero_le y0
 refine(mul64_nat x y (by omega) (by omega) w).mono ?_
 rintro e w' ⟨rfl,rfl⟩
 refine⟨?_,rfl⟩
 unfold hiOf loOf;rw [Int.natCast_ediv,Int.natCast_emod,Int.natCast_mul]
 rfl
end Go.Proofs.YtjknlhiimmbilaaGreatDoor
/- Division of two words by the big prime, and multiplication modulo it. -/
set_option maxRecDepth 100000
set_option maxHeartbeats 2000000
namespace Go.Proofs.YtjknlhiimmbilaaGreatDoor
open Go.ChangeShapes Go.WideShapes Go.ChangeAt Go.RowKit
theorem len64_big (w:World):Calls Tryz.prog 142 #[.int .u64 18446744069414584321] w fun e w'=>e= .returned (.int .i64 64)∧w=w':=by
 go_enter Tryz.func142,Tryz.ntmps142
 go_wp2
 go_ret
 exact⟨by kernel_rfl,rfl⟩
theorem lz64_big (w:World):Calls Tryz.prog 303 #[.int .u64 18446744069414584321] w fun e w'=>e= .returned (.int .i64 0)∧w=w':=by
 go_enter Tryz.func303,Tryz.ntmps303
 go_wp2_with fail
 refine(len64_big _).mono ?_
 rintro e w1 ⟨rfl,rfl⟩
 go_wp2
 go_ret
 exact⟨rfl,rfl⟩
theorem and_big:bits .and .u64 18446744069414584321 4294967295=1:=by decide+kernel
theorem or_zero (a:Int)(h0:0≤a)(h1:a<18446744073709551616):bits .or .u64 a 0=a:=by
 obtain⟨n,rfl⟩:=Int.eq_ofNat_of_zero_le h0
 have h:=bits_or_u64_nat n 0 (by omega) (by omega)
 simpa using h
theorem and_mask (a:Int)(h0:0≤a)(h1:a<18446744073709551616):bits .and .u64 a 4294967295=a % 4294967296:=by
 obtain⟨n,rfl⟩:=Int.eq_ofNat_of_zero_le h0
 have h:=Mul64.maskN n (by omega)
 rw [h];omega
def leftOf (hi lo:Int):Int:=(hi*18446744073709551616+lo) % 18446744069414584321
def DivRet (hi lo:Int)(w:World)(e:Ending)(w':World):Prop:= ∃q,e= .returned (.tuple #[.int .u64 q,.int .u64 (leftOf hi lo)])∧Below w.heap.size w w'
theorem div64_any (hi lo:Int)(h0:0≤hi)(h1:hi<18446744069414584321)(l0:0≤lo)(l1:lo<18446744073709551616)(w:World):
   Calls Tryz.prog 236 #[.int .u64 hi,.int .u64 lo,.int .u64 18446744069414584321] w (DivRet hi lo w):=by
 by_cases hz:hi=0
 · subst hz
   go_enter Tryz.func236,Tryz.ntmps236
   go_wp2_with fail
   go_quiet (fail)
   go_wp2_with fail;go_ret2
   exact⟨_,by unfold leftOf;simp;rfl,by repeat (first|exact Below.refl _ _|refine bdrewN ?_ _)⟩
 · have hz2:(hi==0)=false:=by simpa using hz
   have hpos:0<hi:=by omega
   clear hz;have eA:=and_big
   have eB:lo / 18446744073709551616=0:=by omega
   have eC:=or_zero hi h0 (by omega)
   have eD:=and_mask lo l0 l1
   go_enter Tryz.func236,Tryz.ntmps236
   go_wp2_with fail
   refine(lz64_big _).mono ?_
   rintro e w1 ⟨rfl,rfl⟩;go_wp2_with fail;clear eA eB eC;obtain⟨u,hu⟩: ∃u:Int,lo / 4294967296=u:=⟨_,rfl⟩;obtain⟨v,hv⟩: ∃v:Int,lo % 4294967296=v:=⟨_,rfl⟩
   have u0:0≤u:=by omega
   have u1:u<4294967296:=by omega
   have v0:0≤v:=by omega
   have v1:v<4294967296:=by omega
   have HLO:Hid (lo=u*4294967296+v):=by show _=_;omega
   rw [hu,hv];clear hu hv eD
   go_loop [15,16] (fun q r=> ∃a b:Int,q= .int .u64 a∧r= .int .u64 b∧Guess hi u a b) (fun q _=>(intOf q).toNat)
   case atStart=>exact⟨_,_,rfl,rfl,Guess.start h0 h1⟩
   case round=>
     obtain⟨a,b,rfl,rfl,hg⟩:=hrel;have HG:=Hd hg;obtain⟨a0,a1,b0,b1⟩:=hg.bounds;clear hg
     by_cases c1:4294967296≤a
     · obtain⟨n1,n2,n3,n4⟩:=HG.out.next h1 u0 u1 (.inl c1)
       subst n4;go_wp2_with fail
       go_round
       case rel=>exact⟨a-1,0+4294967295,rfl,rfl,n1⟩
       case measure=>simp [intOf];omega
     · by_cases c2:4294967296*b+u<a
       · obtain⟨n1,n2,n3,n4⟩:=HG.out.next h1 u0 u1 (.inr c2)
         subst n4;go_wp2_with fail
         go_round
         case rel=>exact⟨a-1,0+4294967295,rfl,rfl,n1⟩
         case measure=>simp [intOf];omega
       · obtain⟨d1,d2,d3⟩:=HG.out.done u0 u1 (by omega) (by omega)
         obtain⟨U,hU⟩: ∃U:Int,4294967296*b+u-a=U:=⟨_,rfl⟩
         have HD:Hid (hi*4294967296+u=a*18446744069414584321+U):=by show _=_;omega
         have eU:IntKind.u64.wrap (IntKind.u64.wrap (IntKind.u64.wrap (hi*4294967296)+u)-IntKind.u64.wrap (a*18446744069414584321))=U:=by
           rw [IntKind.wrap_u64,IntKind.wrap_u64,IntKind.wrap_u64,IntKind.wrap_u64];omega
         have U0:0≤U:=by omega
         have U1:U<18446744069414584321:=by omega
         clear d1 d2 d3 hU HG;go_wp2_with fail;clear eU
         go_loop [18,16] (fun q r=> ∃c d:Int,q= .int .u64 c∧r= .int .u64 d∧Guess U v c d) (fun q _=>(intOf q).toNat)
         case atStart=>exact⟨_,_,rfl,rfl,Guess.start U0 U1⟩
         case round=>
           obtain⟨c,d,rfl,rfl,hg⟩:=hrel;have HG:=Hd hg;obtain⟨k0,k1,k2,k3⟩:=hg.bounds;clear hg
           by_cases c3:4294967296≤c
           · obtain⟨n1,n2,n3,n4⟩:=HG.out.next U1 v0 v1 (.inl c3)
             subst n4;go_wp2_with fail
             go_round
             case rel=>exact⟨c-1,0+4294967295,rfl,rfl,n1⟩
             case measure=>simp [intOf];omega
           · by_cases c4:4294967296*d+v<c
             · obtain⟨n1,n2,n3,n4⟩:=HG.out.next U1 v0 v1 (.inr c4)
               subst n4;go_wp2_with fail
               go_round
               case rel=>exact⟨c-1,0+4294967295,rfl,rfl,n1⟩
               case measure=>simp [intOf];omega
             · obtain⟨d1,d2,d3⟩:=HG.out.done v0 v1 (by omega) (by omega)
               obtain⟨V,hV⟩: ∃V:Int,4294967296*d+v-c=V:=⟨_,rfl⟩
               have eV:IntKind.u64.wrap (IntKind.u64.wrap (IntKind.u64.wrap (U*4294967296)+v)-IntKind.u64.wrap (c*18446744069414584321))=V:=by
                 rw [IntKind.wrap_u64,IntKind.wrap_u64,IntKind.wrap_u64,IntKind.wrap_u64];omega
               have HE:Hid (V=leftOf hi lo):=by
                 show _=_
                 have h1':=HD.out;have h2':=HLO.out;unfold leftOf
                 omega
               have V0:0≤V:=by omega
               have V1:V<18446744073709551616:=by omega
               clear d1 d2 d3 hV HG;go_wp2_with fail;go_ret2
               exact⟨_,by rw [←HE.out];rfl,Below.refl _ _⟩
end Go.Proofs.YtjknlhiimmbilaaGreatDoor
/- The field's greater functions at the big prime: mul, pow, Add, Mul, Pow. -/
set_option maxRecDepth 100000
set_option maxHeartbeats 1000000
namespace Go.Proofs.YtjknlhiimmbilaaGreatDoor
open Go.ChangeShapes Go.WideShapes Go.ChangeAt Go.RowKit
theorem leftOf_mul (a b:Int):leftOf (hiOf a b) (loOf a b)=mulP a b:=by
 unfold leftOf hiOf loOf mulP;generalize a*b=c
 omega
theorem hiOf_in {a b:Int}(a0:0≤a)(a1:a<18446744069414584321)(b0:0≤b)(b1:b<18446744069414584321):0≤hiOf a b∧hiOf a b<18446744069414584321∧0≤loOf a b∧loOf a b<18446744073709551616:=by
 have h:a*b≤18446744069414584321*18446744069414584321:=Int.mul_le_mul (by omega) (by omega) b0 (by omega)
 have h':0≤a*b:=Int.mul_nonneg a0 b0;unfold hiOf loOf;generalize a*b=c at*
 omega
theorem mul_big (a b:Int)(a0:0≤a)(a1:a<18446744069414584321)(b0:0≤b)(b1:b<18446744069414584321)(w:World):
   Calls Tryz.prog 244 #[.agg #[.int .u64 18446744069414584321],.int .u64 a,.int .u64 b] w fun e w'=>e= .returned (.int .u64 (mulP a b))∧Below w.heap.size w w':=by
 obtain⟨g0,g1,g2,g3⟩:=hiOf_in a0 a1 b0 b1;have HL:=Hd (leftOf_mul a b)
 go_enter Tryz.func244,Tryz.ntmps244
 go_wp2_with fail
 refine(mul64_any a b a0 (by omega) b0 (by omega) _).mono ?_
 rintro e w1 ⟨rfl,rfl⟩;go_wp2_with fail
 refine(div64_any _ _ g0 g1 g2 g3 _).mono ?_
 rintro e w1 ⟨q,rfl,hb1⟩;rw [HL.out];go_wp2_with fail;go_ret
 exact⟨rfl,bnext (bnew (Below.refl _ _) _) hb1⟩
theorem and_one (n:Nat)(h:n<18446744073709551616):bits .and .u64 (n:Int) 1=((n % 2:Nat):Int):=by
 have h':=bits_and_u64_nat n 1 h (by omega)
 rw [Nat.and_one_is_mod]at h'
 exact h'
theorem pow_big (a:Int)(a0:0≤a)(a1:a<18446744069414584321)(e:Nat)(he:e<18446744073709551616)(w:World):
   Calls Tryz.prog 307 #[.agg #[.int .u64 18446744069414584321],.int .u64 a,.int .u64 e] w fun x w'=>x= .returned (.int .u64 (powP a e))∧Below w.heap.size w w':=by
 have hb0:=bnew (Below.refl w.heap.size w) (.cells #[.int .u64 18446744069414584321] 219);have HB:=Hd (box_new w (.cells #[.int .u64 18446744069414584321] 219))
 go_enter Tryz.func307,Tryz.ntmps307
 go_wp2_with fail
 go_loopw [1,2,7] (fun va ve vr wr=> ∃(b r:Int) (k:Nat),va= .int .u64 b∧ve= .int .u64 k∧vr= .int .u64 r∧0≤b∧b<18446744069414584321∧0≤r∧r<18446744069414584321∧k<18446744073709551616∧Hid (mulP r (powP b k)=powP a e)∧
     wr.heap[w.heap.size]? =some (.cells #[.int .u64 18446744069414584321] 219 (0,0))∧Below w.heap.size w wr) (fun _ ve _ _=>(intOf ve).toNat)
 case atStart=>exact⟨a,1,e,rfl,rfl,rfl,a0,a1,by omega,by omega,he,powP_of a e,HB.out,hb0⟩
 case round=>
   obtain⟨b,r,k,rfl,rfl,rfl,b0,b1,r0,r1,hk,hinv,hbox,hbr⟩:=hrel;obtain⟨x0,x1⟩:=box_cells hbox;have HBX:=Hd hbox;clear hbox
   by_cases hk0:k=0
   · subst hk0
     have HF:Hid (r=powP a e):=by show _=_;rw [←hinv.out,mulP_one r0 r1]
     go_wp2_with fail;go_ret
     exact⟨ret_int HF.out,hbr⟩
   · have k1:0<(k:Int):=by omega
     have k2:0<k:=by omega
     have hand:=and_one k hk
     by_cases hodd:k % 2=1
     · rw [hodd]at hand
       have ho:=Hd (pow_odd r b k hodd)
       by_cases hhalf:k / 2=0
       · obtain rfl:k=1:=by omega
         have hm:=mulP_in r b
         have HN:Hid (mulP (mulP r b) (powP b 0)=powP a e):=by
           show _=_
           rw [mulP_one hm.1 hm.2,←hinv.out];unfold powP;rw [Int.pow_one,Int.emod_eq_of_lt b0 b1]
         clear hand ho;go_wp2_with fail
         refine(mul_big r b r0 r1 b0 b1 _).mono ?_
         rintro x w1 ⟨rfl,hb1⟩;have hbx:=box_after hb1 HBX.out;have hbw:=bnext hbr hb1;go_wp2_with fail
         go_roundw
         case rel=>exact⟨b,mulP r b,0,rfl,rfl,rfl,b0,b1,hm.1,hm.2,by omega,HN,hbx,hbw⟩
         case measure=>simp [intOf]
       · have hm:=mulP_in r b
         have hq:=mulP_in b b
         have HN:Hid (mulP (mulP r b) (powP (mulP b b) (k / 2))=powP a e):=by
           show _=_
           rw [ho.out,hinv.out]
         have k3:0<(k:Int) / 2:=by omega
         have k4:((k:Int) / 2).toNat<k:=by omega
         go_wp2_with fail
         refine(mul_big r b r0 r1 b0 b1 _).mono ?_
         rintro x w1 ⟨rfl,hb1⟩;clear x0 x1;obtain⟨x0,x1⟩:=box_cells (box_after hb1 HBX.out);go_wp2_with fail
         refine(mul_big b b b0 b1 b0 b1 _).mono ?_
         rintro x w2 ⟨rfl,hb2⟩;have hbx:=box_after hb2 (box_after hb1 HBX.out);have hbw:=bnext (bnext hbr hb1) hb2;go_wp2_with fail
         go_roundw
         case rel=>exact⟨mulP b b,mulP r b,k / 2,rfl,by rw [Int.natCast_ediv];rfl,rfl,hq.1,hq.2,hm.1,hm.2,by omega,HN,hbx,hbw⟩
         case measure=>simp [intOf];omega
     · have hz:k % 2=0:=by omega
       rw [hz]at hand;have hq:=mulP_in b b
       have HN:Hid (mulP r (powP (mulP b b) (k / 2))=powP a e):=by
         show _=_
         rw [pow_even r b k hz,hinv.out]
       have k3:0<(k:Int) / 2:=by omega
       go_wp2_with fail
       refine(mul_big b b b0 b1 b0 b1 _).mono ?_
       rintro x w2 ⟨rfl,hb2⟩;have hbx:=box_after hb2 HBX.out;have hbw:=bnext hbr hb2;go_wp2_with fail
       go_roundw
       case rel=>exact⟨mulP b b,r,k / 2,rfl,by rw [Int.natCast_ediv];rfl,rfl,hq.1,hq.2,r0,r1,by omega,HN,hbx,hbw⟩
       case measure=>simp [intOf];omega
def BoxP (w:World)(w':World):Prop:=Below w.heap.size w w'∧w.heap.size<w'.heap.size∧ ∀o,w'.cell? ⟨w.heap.size,o,none⟩=(#[.int .u64 18446744069414584321]:Array Value)[o]?
theorem BoxP.drew {w w':World}(h:BoxP w w'):BoxP w w'.drew:=⟨h.1.drew,h.2.1,h.2.2⟩
theorem BoxP.next {w w1 w2:World}(h:BoxP w w1)(hb:Below w1.heap.size w1 w2):BoxP w w2:=
 ⟨bnext h.1 hb,Nat.lt_of_lt_of_le h.2.1 hb.size,fun o=>(hb.cell (p:=⟨_,o,none⟩) h.2.1).trans (h.2.2 o)⟩
theorem BoxP.of {w w':World}(hb:Below w.heap.size w w')(hx:w'.heap[w.heap.size]? =some (.cells #[.int .u64 18446744069414584321] 219 (0,0))):BoxP w w':=⟨hb,box_lt hx,(box_cells hx).1⟩
theorem Add_big (a b:Int)(a0:0≤a)(b0:0≤b)(w:World):
   Calls Tryz.prog 184 #[.agg #[.int .u64 18446744069414584321],.int .u64 a,.int .u64 b] w fun e w'=>e= .returned (.int .u64 (addP a b))∧Below w.heap.size w w':=by
 have ha:=redP_in a;have hb:=redP_in b;have HR:=Hd (addP_red a b)
 go_enter Tryz.func184,Tryz.ntmps184
 go_wp2_with fail
 refine(valid_big _).mono ?_
 rintro e w1 ⟨rfl,hb1⟩;have hbx:=BoxP.of (bnext (bnew (Below.refl _ _) _) hb1) (box_after hb1 (box_new w _));obtain⟨x0,x1⟩:=box_cells (box_after hb1 (box_new w _));go_wp2_with fail
 go_region_held3 (fun w'=>Below w.heap.size w w'∧w.heap.size<w'.heap.size∧ ∀o,w'.cell? ⟨w.heap.size,o,none⟩=(#[.int .u64 18446744069414584321]:Array Value)[o]?)
   (first
     |exact hbx.drew
     |(have hh:=(‹Below w.heap.size w _∧_<_∧_› :BoxP w _);exact BoxP.next hh hbc))
   (first
     |(go_at_call_of 243 a;refine(reduced_big a a0 _).mono ?_;rintro e w2 ⟨rfl,hbc⟩)
     |(go_at_call_of 243 b;refine(reduced_big b b0 _).mono ?_;rintro e w2 ⟨rfl,hbc⟩)
     |(go_at_call 242;refine(add_big _ _ ha.1 ha.2 hb.1 hb.2 _).mono ?_;rintro e w2 ⟨rfl,hbc⟩))
 all_goals (have hh:=(‹Below w.heap.size w _∧_<_∧_› :BoxP w _))
 all_goals go_wp2_with fail
 all_goals go_ret
 all_goals exact⟨ret_int (by rw [HR.out]),hh.1⟩
theorem Mul_big (a b:Int)(a0:0≤a)(b0:0≤b)(w:World):
   Calls Tryz.prog 185 #[.agg #[.int .u64 18446744069414584321],.int .u64 a,.int .u64 b] w fun e w'=>e= .returned (.int .u64 (mulP a b))∧Below w.heap.size w w':=by
 have ha:=redP_in a;have hb:=redP_in b;have HR:=Hd (mulP_red a b)
 go_enter Tryz.func185,Tryz.ntmps185
 go_wp2_with fail
 refine(valid_big _).mono ?_
 rintro e w1 ⟨rfl,hb1⟩;have hbx:=BoxP.of (bnext (bnew (Below.refl _ _) _) hb1) (box_after hb1 (box_new w _));obtain⟨x0,x1⟩:=box_cells (box_after hb1 (box_new w _));go_wp2_with fail
 go_region_held3 (fun w'=>Below w.heap.size w w'∧w.heap.size<w'.heap.size∧ ∀o,w'.cell? ⟨w.heap.size,o,none⟩=(#[.int .u64 18446744069414584321]:Array Value)[o]?)
   (first
     |exact hbx.drew
     |(have hh:=(‹Below w.heap.size w _∧_<_∧_› :BoxP w _);exact BoxP.next hh hbc))
   (first
     |(go_at_call_of 243 a;refine(reduced_big a a0 _).mono ?_;rintro e w2 ⟨rfl,hbc⟩)
     |(go_at_call_of 243 b;refine(reduced_big b b0 _).mono ?_;rintro e w2 ⟨rfl,hbc⟩)
     |(go_at_call 244;refine(mul_big _ _ ha.1 ha.2 hb.1 hb.2 _).mono ?_;rintro e w2 ⟨rfl,hbc⟩))
 all_goals (have hh:=(‹Below w.heap.size w _∧_<_∧_› :BoxP w _))
 all_goals go_wp2_with fail
 all_goals go_ret
 all_goals exact⟨ret_int (by rw [HR.out]),hh.1⟩
theorem Pow_big (a:Int)(a0:0≤a)(n:Nat)(hn:n<18446744073709551616)(w:World):
   Calls Tryz.prog 246 #[.agg #[.int .u64 18446744069414584321],.int .u64 a,.int .u64 n] w fun e w'=>e= .returned (.int .u64 (powP a n))∧Below w.heap.size w w':=by
 have ha:=redP_in a;have HR:=Hd (powP_red a n)
 go_enter Tryz.func246,Tryz.ntmps246
 go_wp2_with fail
 refine(valid_big _).mono ?_
 rintro e w1 ⟨rfl,hb1⟩;have hbx:=BoxP.of (bnext (bnew (Below.refl _ _) _) hb1) (box_after hb1 (box_new w _));obtain⟨x0,x1⟩:=box_cells (box_after hb1 (box_new w _));go_wp2_with fail
 go_region_held3 (fun w'=>Below w.heap.size w w'∧w.heap.size<w'.heap.size∧ ∀o,w'.cell? ⟨w.heap.size,o,none⟩=(#[.int .u64 18446744069414584321]:Array Value)[o]?)
   (first
     |exact hbx.drew
     |(have hh:=(‹Below w.heap.size w _∧_<_∧_› :BoxP w _);exact BoxP.next hh hbc))
   (first
     |(go_at_call 243;refine(reduced_big a a0 _).mono ?_;rintro e w2 ⟨rfl,hbc⟩)
     |(go_at_call 307;refine(pow_big _ ha.1 ha.2 n hn _).mono ?_;rintro e w2 ⟨rfl,hbc⟩))
 all_goals (have hh:=(‹Below w.heap.size w _∧_<_∧_› :BoxP w _))
 all_goals go_wp2_with fail
 all_goals go_ret
 all_goals exact⟨ret_int (by rw [HR.out]),hh.1⟩
end Go.Proofs.YtjknlhiimmbilaaGreatDoor
/- The permutation at the big prime. -/
set_option maxRecDepth 100000
set_option maxHeartbeats 1000000
namespace Go.Proofs.YtjknlhiimmbilaaGreatDoor
open Go.ChangeShapes Go.WideShapes Go.ChangeAt Go.RowKit
abbrev T3:=Int×Int×Int
def cstP (r i:Int):Int:=redP (IntKind.u64.wrap ((3*r+i+1)*11400714819323198485))
def mixS (s:T3):T3:=(addP s.1 (addP (addP s.1 s.2.1) s.2.2),addP s.2.1 (addP (addP s.1 s.2.1) s.2.2),addP s.2.2 (addP (addP s.1 s.2.1) s.2.2))
def sbox (r i x:Int):Int:=powP (addP x (cstP r i)) 7
def permTo (s:T3):Nat→T3
 |0=>s
 |k+1=>mixS (sbox k 0 (permTo s k).1,sbox k 1 (permTo s k).2.1,sbox k 2 (permTo s k).2.2)
def permS (s:T3):T3:=permTo s 8
def Words3 (s:T3):Prop:=(0≤s.1∧s.1<18446744073709551616)∧(0≤s.2.1∧s.2.1<18446744073709551616)∧(0≤s.2.2∧s.2.2<18446744073709551616)
theorem addP_word (a b:Int):0≤addP a b∧addP a b<18446744073709551616:=by
 have:=addP_in a b
 omega
theorem mixS_words (s:T3):Words3 (mixS s):=by
 unfold Words3 mixS
 exact⟨addP_word _ _,addP_word _ _,addP_word _ _⟩
theorem permTo_words {s:T3}(h:Words3 s): ∀k,Words3 (permTo s k)
 |0=>h
 |_+1=>mixS_words _
theorem sbox_word (r i x:Int):0≤sbox r i x∧sbox r i x<18446744073709551616:=by
 have:=powP_in (addP x (cstP r i)) 7
 unfold sbox;omega
theorem Reduce_big (n:Int)(h0:0≤n)(w:World):Calls Tryz.prog 308 #[.agg #[.int .u64 18446744069414584321],.int .u64 n] w fun e w'=>e= .returned (.int .u64 (redP n))∧Below w.heap.size w w':=by
 go_enter Tryz.func308,Tryz.ntmps308
 go_wp2_with fail
 refine(valid_big _).mono ?_
 rintro e w1 ⟨rfl,hb1⟩;obtain⟨x0,x1⟩:=box_cells (box_after hb1 (box_new w _));go_wp2_with fail
 refine(reduced_big n h0 _).mono ?_
 rintro e w2 ⟨rfl,hb2⟩;go_wp2_with fail;go_ret
 exact⟨rfl,bnext (bnext (bnew (Below.refl _ _) _) hb1) hb2⟩
theorem constant_big (r i:Int)(r0:0≤r)(r1:r<8)(i0:0≤i)(i1:i≤2)(w:World):
   Calls Tryz.prog 247 #[.int .u64 18446744069414584321,.int .i64 r,.int .i64 i] w fun e w'=>e= .returned (.int .u64 (cstP r i))∧Below w.heap.size w w':=by
 have hw:0≤IntKind.u64.wrap ((3*r+i+1)*11400714819323198485):=by rw [IntKind.wrap_u64];omega
 go_enter Tryz.func247,Tryz.ntmps247
 go_wp2_with fail
 refine(Reduce_big _ hw _).mono ?_
 rintro e w1 ⟨rfl,hb1⟩;go_wp2_with fail;go_ret
 exact⟨rfl,hb1⟩
def MixAt (w:World)(a b c:Int)(w':World):Prop:=
 Below w.heap.size w w'∧w.heap.size+2<w'.heap.size∧(∀o,w'.cell? ⟨w.heap.size,o,none⟩=(#[.int .u64 a,.int .u64 b,.int .u64 c]:Array Value)[o]?)∧(∀o,w'.cell? ⟨w.heap.size+2,o,none⟩=(#[.int .u64 18446744069414584321]:Array Value)[o]?)∧
   (∀o,o<3→(w'.cell? ⟨w.heap.size+1,o,none⟩).isSome=true)∧(∀o,w'.frozen? ⟨w.heap.size+1,o,none⟩=false)
theorem MixAt.drew {w w':World}{a b c:Int}(h:MixAt w a b c w'):MixAt w a b c w'.drew:=⟨h.1.drew,h.2.1,h.2.2.1,h.2.2.2.1,h.2.2.2.2.1,h.2.2.2.2.2⟩
theorem MixAt.next {w w1 w2:World}{a b c:Int}(h:MixAt w a b c w1)(hb:Below w1.heap.size w1 w2):MixAt w a b c w2:=by
 obtain⟨h1,h2,h3,h4,h5,h6⟩:=h;have hz:=hb.size
 exact⟨bnext h1 hb,by omega,fun o=>(hb.cell (p:=⟨_,o,none⟩) (show w.heap.size<w1.heap.size by omega)).trans (h3 o),fun o=>(hb.cell (p:=⟨_,o,none⟩) h2).trans (h4 o),
   fun o ho=>by rw [hb.cell (p:=⟨w.heap.size+1,o,none⟩) (show w.heap.size+1<w1.heap.size by omega)];exact h5 o ho,fun o=>(hb.frozen (p:=⟨w.heap.size+1,o,none⟩) (show w.heap.size+1<w1.heap.size by omega)).trans (h6 o)⟩
theorem read3 {w:World}{b:Nat}{u0 u1 u2 x y z:Value}(k0:w.cell? ⟨b,0,none⟩=some u0)(k1:w.cell? ⟨b,1,none⟩=some u1)(k2:w.cell? ⟨b,2,none⟩=some u2):
   (((w.setCell ⟨b,0,none⟩ x).setCell ⟨b,1,none⟩ y).setCell ⟨b,2,none⟩ z).cell? ⟨b,0,none⟩=some x∧(((w.setCell ⟨b,0,none⟩ x).setCell ⟨b,1,none⟩ y).setCell ⟨b,2,none⟩ z).cell? ⟨b,1,none⟩=some y∧
   (((w.setCell ⟨b,0,none⟩ x).setCell ⟨b,1,none⟩ y).setCell ⟨b,2,none⟩ z).cell? ⟨b,2,none⟩=some z:=by
 have d01:(⟨b,0,none⟩:Addr)≠⟨b,1,none⟩:=by simp
 have d02:(⟨b,0,none⟩:Addr)≠⟨b,2,none⟩:=by simp
 have d12:(⟨b,1,none⟩:Addr)≠⟨b,2,none⟩:=by simp
 refine⟨?_,?_,?_⟩
 · rw [World.cell?_setCell_other _ _ _ _ d02.symm,World.cell?_setCell_other _ _ _ _ d01.symm];exact World.cell?_setCell_same _ _ _ k0
 · rw [World.cell?_setCell_other _ _ _ _ d12.symm];exact World.cell?_setCell_same _ _ _ ((World.cell?_setCell_other _ _ _ _ d01).trans k1)
 · exact World.cell?_setCell_same _ _ _ ((World.cell?_setCell_other _ _ _ _ d12).trans ((World.cell?_setCell_other _ _ _ _ d02).trans k2))
theorem MixAt.store {w w':World}{a b c:Int}(h:MixAt w a b c w')(x y z:Value):MixAt w a b c (((w'.setCell ⟨w.heap.size+1,0,none⟩ x).setCell ⟨w.heap.size+1,1,none⟩ y).setCell ⟨w.heap.size+1,2,none⟩ z):=by
 obtain⟨h1,h2,h3,h4,h5,h6⟩:=h
 obtain⟨u0,k0⟩:=Option.isSome_iff_exists.1 (h5 0 (by omega))
 obtain⟨u1,k1⟩:=Option.isSome_iff_exists.1 (h5 1 (by omega))
 obtain⟨u2,k2⟩:=Option.isSome_iff_exists.1 (h5 2 (by omega))
 obtain⟨r0,r1,r2⟩:=read3 (x:=x) (y:=y) (z:=z) k0 k1 k2
 have far: ∀(q o:Nat),q≠w.heap.size+1→(((w'.setCell ⟨w.heap.size+1,0,none⟩ x).setCell ⟨w.heap.size+1,1,none⟩ y).setCell ⟨w.heap.size+1,2,none⟩ z).cell? ⟨q,o,none⟩=w'.cell? ⟨q,o,none⟩:=fun q o hq=>by
   rw [World.cell?_setCell_far _ _ _ _ (fun e=>hq e.symm),World.cell?_setCell_far _ _ _ _ (fun e=>hq e.symm),World.cell?_setCell_far _ _ _ _ (fun e=>hq e.symm)]
 refine⟨((h1.setCell (Nat.le_succ _) _).setCell (Nat.le_succ _) _).setCell (Nat.le_succ _) _,by rw [World.size_setCell,World.size_setCell,World.size_setCell];exact h2,fun o=>(far _ o (by omega)).trans (h3 o),fun o=>(far _ o (by omega)).trans (h4 o),fun o ho=> ?_,fun o=>by rw [World.frozen?_setCell,World.frozen?_setCell,World.frozen?_setCell];exact h6 o⟩
 match o,ho with
 |0,_=>rw [r0];rfl
 |1,_=>rw [r1];rfl
 |2,_=>rw [r2];rfl
theorem three_new (w:World)(a b c:Obj):(((w.alloc a).alloc b).alloc c).heap[w.heap.size+2]? =some c∧(((w.alloc a).alloc b).alloc c).heap[w.heap.size+1]? =some b∧(((w.alloc a).alloc b).alloc c).heap[w.heap.size]? =some a:=by
 have e1:(w.alloc a).heap.size=w.heap.size+1:=World.size_alloc ..
 have e2:((w.alloc a).alloc b).heap.size=w.heap.size+2:=by rw [World.size_alloc,e1]
 exact⟨e2▸box_new _ c,box_old (e1▸box_new _ b),box_old (box_old (box_new _ a))⟩
theorem MixAt.start (w:World)(a b c:Int):MixAt w a b c (((w.alloc (.cells #[.int .u64 a,.int .u64 b,.int .u64 c] 205)).alloc (.cells #[.int .u64 0,.int .u64 0,.int .u64 0] 205)).alloc (.cells #[.int .u64 18446744069414584321] 219)):=by
 obtain⟨q1,q2,q3⟩:=three_new w (.cells #[.int .u64 a,.int .u64 b,.int .u64 c] 205) (.cells #[.int .u64 0,.int .u64 0,.int .u64 0] 205) (.cells #[.int .u64 18446744069414584321] 219)
 refine⟨bnew (bnew (bnew (Below.refl _ _) _) _) _,box_lt q1,(box_cells q3).1,(box_cells q1).1,fun o ho=> ?_,(box_cells q2).2⟩
 rw [(box_cells q2).1]
 match o,ho with
 |0,_=>rfl
 |1,_=>rfl
 |2,_=>rfl
theorem mix_big (a b c:Int)(a0:0≤a)(b0:0≤b)(c0:0≤c)(w:World):
   Calls Tryz.prog 248 #[.int .u64 18446744069414584321,.agg #[.int .u64 a,.int .u64 b,.int .u64 c]] w
     fun e w'=>e= .returned (.agg #[.int .u64 (mixS (a,b,c)).1,.int .u64 (mixS (a,b,c)).2.1,.int .u64 (mixS (a,b,c)).2.2])∧Below w.heap.size w w':=by
 have hab:=addP_word a b
 go_enter Tryz.func248,Tryz.ntmps248
 go_wp2_with fail;have hst:MixAt w a b c (((w.alloc (.cells #[.int .u64 a,.int .u64 b,.int .u64 c] 205)).alloc (.cells #[.int .u64 0,.int .u64 0,.int .u64 0] 205)).alloc (.cells #[.int .u64 18446744069414584321] 219)):=MixAt.start w a b c
 go_region_held3 (fun w'=>Below w.heap.size w w'∧w.heap.size+2<w'.heap.size∧(∀o,w'.cell? ⟨w.heap.size,o,none⟩=(#[.int .u64 a,.int .u64 b,.int .u64 c]:Array Value)[o]?)∧(∀o,w'.cell? ⟨w.heap.size+2,o,none⟩=(#[.int .u64 18446744069414584321]:Array Value)[o]?)∧
   (∀o,o<3→(w'.cell? ⟨w.heap.size+1,o,none⟩).isSome=true)∧(∀o,w'.frozen? ⟨w.heap.size+1,o,none⟩=false))
   (first
     |exact hst.drew
     |(have hh:=(‹Below w.heap.size w _∧_<_∧_› :MixAt w a b c _);exact MixAt.next hh hbc))
   (first
     |(go_at_call_of 184 c;refine(Add_big (addP a b) c hab.1 c0 _).mono ?_;rintro e w2 ⟨rfl,hbc⟩)
     |(go_at_call 184;refine(Add_big a b a0 b0 _).mono ?_;rintro e w2 ⟨rfl,hbc⟩))
 have hst2:=(‹Below w.heap.size w _∧_<_∧_› :MixAt w a b c _);clear hst;obtain⟨m,hm⟩: ∃m:Int,addP (addP a b) c=m:=⟨_,rfl⟩
 have m0:0≤m:=by have:=addP_word (addP a b) c;omega
 have HM:=Hd hm;rw [hm];clear hm;go_wp2_with fail
 go_region_held3 (fun w'=>Below w.heap.size w w'∧w.heap.size+2<w'.heap.size∧(∀o,w'.cell? ⟨w.heap.size,o,none⟩=(#[.int .u64 a,.int .u64 b,.int .u64 c]:Array Value)[o]?)∧(∀o,w'.cell? ⟨w.heap.size+2,o,none⟩=(#[.int .u64 18446744069414584321]:Array Value)[o]?)∧
   (∀o,o<3→(w'.cell? ⟨w.heap.size+1,o,none⟩).isSome=true)∧(∀o,w'.frozen? ⟨w.heap.size+1,o,none⟩=false))
   (first
     |exact MixAt.drew hst2
     |(have hh:=(‹Below w.heap.size w _∧_<_∧_› :MixAt w a b c _);exact MixAt.next hh hbc)
     |(have hh:=(‹Below w.heap.size w _∧_<_∧_› :MixAt w a b c _);exact MixAt.store hh _ _ _))
   (first
     |(go_at_call_of 184 a;refine(Add_big a m a0 m0 _).mono ?_;rintro e w3 ⟨rfl,hbc⟩)
     |(go_at_call_of 184 b;refine(Add_big b m b0 m0 _).mono ?_;rintro e w3 ⟨rfl,hbc⟩)
     |(go_at_call_of 184 c;refine(Add_big c m c0 m0 _).mono ?_;rintro e w3 ⟨rfl,hbc⟩)
     |(have hh:= ‹Below w.heap.size w _∧_<_∧_›;obtain⟨u0,k0⟩:=Option.isSome_iff_exists.1 (hh.2.2.2.2.1 0 (by omega));obtain⟨u1,k1⟩:=Option.isSome_iff_exists.1 (hh.2.2.2.2.1 1 (by omega));obtain⟨u2,k2⟩:=Option.isSome_iff_exists.1 (hh.2.2.2.2.1 2 (by omega));go_simp))
 have hfin:=(‹Below w.heap.size w _∧_<_∧_›).1;obtain⟨r0,r1,r2⟩:=read3 (x:= .int .u64 (addP a m)) (y:= .int .u64 (addP b m)) (z:= .int .u64 (addP c m)) k0 k1 k2;go_wp2_with fail
 refine bodyPost_ret (v:= .agg #[.int .u64 (addP a m),.int .u64 (addP b m),.int .u64 (addP c m)]) (by simp [results,Tryz.results248,go_sem,r0,r1,r2]) rfl ⟨?_,hfin⟩
 unfold mixS;rw [HM.out]
end Go.Proofs.YtjknlhiimmbilaaGreatDoor
/- The data of transactions and rules, and the smallness test. -/
set_option maxRecDepth 100000
set_option maxHeartbeats 2000000
namespace Go.Proofs.YtjknlhiimmbilaaGreatDoor
open Go.ChangeShapes Go.WideShapes Go.ChangeAt Go.RowKit
structure OutM where
 commit:Int
 p0:Int
 p1:Int
 cipher:List Int
structure TxM where
 anchor:Int
 marks:List Int
 outs:List OutM
 dep:Int
 wd:Int
 fee:Int
 acc:Int
 nonce:Int
 exp:Int
 proof:List Int
abbrev u64R:Rep Int:=intR .u64
abbrev numsR:Rep (List Int):=sliceR u64R
abbrev bytesR:Rep (List Int):=sliceR (intR .u8)
def outR:Rep OutM:=mapR (fun o=>(o.commit,(o.p0,o.p1),o.cipher)) (pairR u64R (pairR (pairR u64R u64R) numsR))
theorem outR.n:outR.n=4:=rfl
abbrev outsR:Rep (List OutM):=sliceR outR
def txR:Rep TxM:=mapR (fun t=>(t.anchor,t.marks,t.outs,t.dep,t.wd,t.fee,t.acc,t.nonce,t.exp,t.proof))
 (pairR u64R (pairR numsR (pairR outsR (pairR u64R (pairR u64R (pairR u64R (pairR u64R (pairR u64R (pairR (intR .i64) bytesR)))))))))
theorem txR.n:txR.n=10:=rfl
abbrev okU (x:Int):Prop:=(Lit.int .u64 x).wf=true
theorem one_form {α:Type}{r:Rep α}{S:Nat→Prop}{w:World}{cs:List Value}{xs:List α}(h:(sliceR r).rel S w cs xs): ∃a cap,cs= [.slice a xs.length cap]:=by
 obtain⟨a,len,cap,rfl,rfl, -⟩:=h
 exact⟨a,cap,rfl⟩
theorem outR.inv {S:Nat→Prop}{w:World}{cs:List Value}{o:OutM}(h:outR.rel S w cs o):
   ∃a cap,cs= [.int .u64 o.commit,.int .u64 o.p0,.int .u64 o.p1,.slice a o.cipher.length cap]∧okU o.commit∧okU o.p0∧okU o.p1∧numsR.rel S w [.slice a o.cipher.length cap] o.cipher:=by
 obtain⟨c1,c2,rfl,⟨rfl,w1⟩,d1,d2,rfl,⟨e1,e2,rfl,⟨rfl,w2⟩,⟨rfl,w3⟩⟩,h4⟩:=h;obtain⟨a,cap,rfl⟩:=one_form h4
 exact⟨a,cap,rfl,w1,w2,w3,h4⟩
def txCells (t:TxM)(ma oa pa:Option Addr)(mc oc pc:Nat):List Value:=
 [.int .u64 t.anchor,.slice ma t.marks.length mc,.slice oa t.outs.length oc,.int .u64 t.dep,.int .u64 t.wd,.int .u64 t.fee,.int .u64 t.acc,.int .u64 t.nonce,.int .i64 t.exp,.slice pa t.proof.length pc]
structure TxIn (S:Nat→Prop)(w:World)(t:TxM)(ma oa pa:Option Addr)(mc oc pc:Nat):Prop where
 anchor:okU t.anchor
 dep:okU t.dep
 wd:okU t.wd
 fee:okU t.fee
 acc:okU t.acc
 nonce:okU t.nonce
 exp:(Lit.int .i64 t.exp).wf=true
 marks:numsR.rel S w [.slice ma t.marks.length mc] t.marks
 outs:outsR.rel S w [.slice oa t.outs.length oc] t.outs
 proof:bytesR.rel S w [.slice pa t.proof.length pc] t.proof
theorem txR.inv {S:Nat→Prop}{w:World}{cs:List Value}{t:TxM}(h:txR.rel S w cs t): ∃ma oa pa mc oc pc,cs=txCells t ma oa pa mc oc pc∧TxIn S w t ma oa pa mc oc pc:=by
 obtain⟨_,_,rfl,⟨rfl,w1⟩,_,_,rfl,h2,_,_,rfl,h3,_,_,rfl,⟨rfl,w4⟩,_,_,rfl,⟨rfl,w5⟩,_,_,rfl,⟨rfl,w6⟩,_,_,rfl,⟨rfl,w7⟩,_,_,rfl,⟨rfl,w8⟩,_,_,rfl,⟨rfl,w9⟩,h10⟩:=h;obtain⟨ma,mc,rfl⟩:=one_form h2;obtain⟨oa,oc,rfl⟩:=one_form h3;obtain⟨pa,pc,rfl⟩:=one_form h10
 exact⟨ma,oa,pa,mc,oc,pc,rfl,w1,w4,w5,w6,w7,w8,w9,h2,h3,h10⟩
theorem TxIn.keep {S:Nat→Prop}{w w':World}{t:TxM}{ma oa pa:Option Addr}{mc oc pc:Nat}(h:TxIn S w t ma oa pa mc oc pc)(hk:Kept S w w'):TxIn S w' t ma oa pa mc oc pc:=
 ⟨h.anchor,h.dep,h.wd,h.fee,h.acc,h.nonce,h.exp,numsR.keep h.marks hk,outsR.keep h.outs hk,bytesR.keep h.proof hk⟩
theorem TxIn.keepB {S:Nat→Prop}{w w':World}{t:TxM}{ma oa pa:Option Addr}{mc oc pc:Nat}(h:TxIn S w t ma oa pa mc oc pc)(hb:Below w.heap.size w w'):TxIn S w' t ma oa pa mc oc pc:=h.keep (Kept.of_below hb)
theorem outs_at {S:Nat→Prop}{w:World}{a:Option Addr}{len cap:Nat}{l:List OutM}(h:outsR.rel S w [.slice a len cap] l)(k:Nat)(hk:k<l.length):
   ∃b off ca cc,a=some ⟨b,off,none⟩∧S b∧b<w.heap.size∧okU l[k].commit∧okU l[k].p0∧okU l[k].p1∧numsR.rel S w [.slice ca l[k].cipher.length cc] l[k].cipher∧
    w.cell? ⟨b,off+k*4,none⟩=some (.int .u64 l[k].commit)∧w.cell? ⟨b,off+k*4+1,none⟩=some (.int .u64 l[k].p0)∧w.cell? ⟨b,off+k*4+2,none⟩=some (.int .u64 l[k].p1)∧
    w.cell? ⟨b,off+k*4+3,none⟩=some (.slice ca l[k].cipher.length cc):=by
 obtain⟨b,off,es,rfl,hb,hbl,hrel,hca⟩:=sliceR.at h k hk;obtain⟨ca,cc,rfl,w1,w2,w3,h4⟩:=outR.inv hrel;rw [outR.n]at hca
 exact⟨b,off,ca,cc,rfl,hb,hbl,w1,w2,w3,h4,hca 0 _ rfl,hca 1 _ rfl,hca 2 _ rfl,hca 3 _ rfl⟩
def smallOuts (l:List OutM):Bool:=l.all fun o=>decide (o.cipher.length≤10)
theorem all_take_succ {α:Type}(p:α→Bool)(l:List α)(k:Nat)(h:k<l.length):(l.take (k+1)).all p=((l.take k).all p&&p l[k]):=by
 rw [List.take_succ_eq_append_getElem h,List.all_append];simp
theorem all_false {α:Type}(p:α→Bool)(l:List α)(k:Nat)(h:k<l.length)(hp:p l[k]=false):l.all p=false:=by
 rw [List.all_eq_false]
 exact⟨l[k],by simp,by simp [hp]⟩
end Go.Proofs.YtjknlhiimmbilaaGreatDoor
/- Oracles: made and asked for their mode. -/
set_option maxRecDepth 100000
set_option maxHeartbeats 1000000
namespace Go.Proofs.YtjknlhiimmbilaaGreatDoor
open Go.ChangeShapes Go.WideShapes Go.ChangeAt Go.RowKit
def OrAt (ideal:Bool)(st:Int)(p:Nat)(w:World):Prop:=
 ∃mk ms mp,w.heap[p]? =some (.cells #[.bool ideal,.int .u64 st,.int .i64 0,.slice none 0 0,.map (some mk),.map (some ms),.map (some mp)] 78 (0,0))∧
  w.heap[mk]? =some (.map #[] 0)∧w.heap[ms]? =some (.map #[] 0)∧w.heap[mp]? =some (.map #[] 0)
theorem OrAt.keepB {ideal:Bool}{st:Int}{p:Nat}{w w':World}(h:OrAt ideal st p w)(hb:Below w.heap.size w w'):OrAt ideal st p w':=by
 obtain⟨mk,ms,mp,h1,h2,h3,h4⟩:=h
 exact⟨mk,ms,mp,box_after hb h1,box_after hb h2,box_after hb h3,box_after hb h4⟩
def NewOr (ideal:Bool)(st:Int)(w:World)(e:Ending)(w':World):Prop:=
 ∃p,e= .returned (.pointer (some ⟨p,0,none⟩))∧w.heap.size≤p∧OrAt ideal st p w'∧Below w.heap.size w w'
theorem four_new (w:World)(a b c d:Obj):((((w.alloc a).alloc b).alloc c).alloc d).heap[w.heap.size+3]? =some d∧((((w.alloc a).alloc b).alloc c).alloc d).heap[w.heap.size+2]? =some c∧
   ((((w.alloc a).alloc b).alloc c).alloc d).heap[w.heap.size+1]? =some b∧((((w.alloc a).alloc b).alloc c).alloc d).heap[w.heap.size]? =some a:=by
 have e1:(w.alloc a).heap.size=w.heap.size+1:=World.size_alloc ..
 have e2:((w.alloc a).alloc b).heap.size=w.heap.size+2:=by rw [World.size_alloc,e1]
 have e3:(((w.alloc a).alloc b).alloc c).heap.size=w.heap.size+3:=by rw [World.size_alloc,e2]
 exact⟨e3▸box_new _ d,box_old (e2▸box_new _ c),box_old (box_old (e1▸box_new _ b)),box_old (box_old (box_old (box_new _ a)))⟩
theorem newOracle_any (w:World):Calls Tryz.prog 23 #[] w (NewOr false 0 w):=by
 have hmm:= @run_makeMap Tryz.prog;obtain⟨q1,q2,q3,q4⟩:=four_new w (.map #[] 0) (.map #[] 0) (.map #[] 0) (.cells #[.bool false,.int .u64 0,.int .i64 0,.slice none 0 0,.map (some w.heap.size),.map (some (w.heap.size+1)),.map (some (w.heap.size+2))] 78);have Q1:=Hd q1;have Q2:=Hd q2;have Q3:=Hd q3;have Q4:=Hd q4;clear q1 q2 q3 q4
 go_enter Tryz.func23,Tryz.ntmps23
 go_wp2
 go_ret
 exact⟨w.heap.size+3,by simp,by omega,⟨_,_,_,Q1.out,Q4.out,Q3.out,Q2.out⟩,bnew (bnew (bnew (bnew (Below.refl _ _) _) _) _) _⟩
theorem real_any (w:World):Calls Tryz.prog 5 #[] w (NewOr false 0 w):=by
 go_enter Tryz.func5,Tryz.ntmps5
 go_wp2_with fail
 refine(newOracle_any w).mono ?_
 rintro e w1 ⟨p,rfl,h1,h2,h3⟩
 go_wp2
 go_ret
 exact⟨p,rfl,h1,h2,h3⟩
theorem isIdeal_any (w:World)(p:Nat)(ideal:Bool)(st:Int)(h:OrAt ideal st p w):Calls Tryz.prog 28 #[.pointer (some ⟨p,0,none⟩)] w fun e w'=>e= .returned (.bool ideal)∧w=w':=by
 obtain⟨mk,ms,mp,q1,q2,q3,q4⟩:=h;obtain⟨c0,c1⟩:=box_cells q1;have k0:=c0 0
 simp at k0
 clear c0 q1 q2 q3 q4
 go_enter Tryz.func28,Tryz.ntmps28
 go_wp2
 go_ret
 exact⟨rfl,rfl⟩
end Go.Proofs.YtjknlhiimmbilaaGreatDoor
/- Ideal oracles. -/
set_option maxRecDepth 100000
set_option maxHeartbeats 1000000
namespace Go.Proofs.YtjknlhiimmbilaaGreatDoor
open Go.ChangeShapes Go.WideShapes Go.ChangeAt Go.RowKit
theorem ideal_any (w:World)(st:Int):Calls Tryz.prog 6 #[.int .u64 st] w (NewOr true st w):=by
 go_enter Tryz.func6,Tryz.ntmps6
 go_wp2_with fail
 refine(newOracle_any w).mono ?_
 rintro e w1 ⟨p,rfl,h1,⟨mk,ms,mp,q1,q2,q3,q4⟩,h3⟩;obtain⟨c0,c1⟩:=box_cells q1
 have hno: ∀b,w1.heap[b]? =some (.map #[] 0)→b≠p:=fun b hb e=>by rw [e,q1]at hb;cases hb
 have N1:=Hd (hno mk q2);have N2:=Hd (hno ms q3);have N3:=Hd (hno mp q4);have Q1:=Hd q1;have Q2:=Hd q2;have Q3:=Hd q3;have Q4:=Hd q4;clear q1 q2 q3 q4 hno
 go_wp2
 go_ret
 refine⟨p,rfl,h1,⟨mk,ms,mp,?_,box_set_far (box_set_far Q2.out N1.out) N1.out,box_set_far (box_set_far Q3.out N2.out) N2.out,box_set_far (box_set_far Q4.out N3.out) N3.out⟩,(h3.setCell h1 _).setCell h1 _⟩
 exact box_set (box_set Q1.out)
end Go.Proofs.YtjknlhiimmbilaaGreatDoor
/- The writing functions of the wire. -/
set_option maxRecDepth 100000
set_option maxHeartbeats 1000000
namespace Go.Proofs.YtjknlhiimmbilaaGreatDoor
open Go.ChangeShapes Go.WideShapes Go.ChangeAt Go.RowKit
def digs:Nat→Int→List Int
 |0,_=> []
 |k+1,n=>n % 256::digs k (n / 256)
theorem digs_len: ∀k n,(digs k n).length=k
 |0,_=>rfl
 |k+1,n=>by simp [digs,digs_len k]
abbrev u8R:Rep Int:=intR .u8
theorem Tryz.etyBytes:ElemTy Tryz.prog 71 5 1 1:=ElemTy.of Tryz.underlying71 (z:= .int .u8 0) (by kernel_rfl) rfl (by omega)
theorem Tryz.etyNums:ElemTy Tryz.prog 66 24 1 8:=ElemTy.of Tryz.underlying66 (z:= .int .u64 0) (by kernel_rfl) rfl (by omega)
def GrewTo (B:Nat)(w0:World)(ys:List Int)(e:Ending)(w':World):Prop:=
 ∃v',e= .returned v'∧Own u8R B 5 (fun x=>False∨B≤x) w' v' ys∧Below B w0 w'
theorem appendDigits_any (w0 w:World) (B:Nat) (hb:Below B w0 w) (hB0:B≤w0.heap.size) (v:Value) (xs:List Int) (ho:Own u8R B 5 (fun x=>False∨B≤x) w v xs) (n:Int) (n0:0≤n) (n1:n<18446744073709551616) (size:Nat) (hs:size≤8)
   (hl:xs.length≤1000000000):Calls Tryz.prog 85 #[v,.int .u64 n,.int .i64 size] w (GrewTo B w0 (xs++digs size n)):=by
 go_enter Tryz.func85,Tryz.ntmps85
 go_wp2_with fail
 go_loopw [0,1,8] (fun vb vn vi wr=> ∃(k:Nat) (m:Int) (ys:List Int),k≤size∧vi= .int .i64 k∧vn= .int .u64 m∧0≤m∧m<18446744073709551616∧ys.length=xs.length+k∧Hid (ys++digs (size-k) m=xs++digs size n)∧
     Own u8R B 5 (fun x=>False∨B≤x) wr vb ys∧Below B w0 wr∧B≤wr.heap.size) (fun _ _ vi _=>size-(intOf vi).toNat)
 case atStart=>exact⟨0,n,xs,Nat.zero_le _,rfl,rfl,n0,n1,rfl,rfl,ho,hb,Nat.le_trans hB0 hb.size⟩
 case round=>
   obtain⟨k,m,ys,hk,rfl,rfl,m0,m1,hyl,hinv,hor,hbr,hBr⟩:=hrel;have HYL:=Hd hyl;clear hyl
   by_cases hlt:k<size
   · have HI:Hid ((ys++ [m % 256])++digs (size-(k+1)) (m / 256)=xs++digs size n):=by
       show _=_
       rw [←hinv.out,List.append_assoc,show size-k=(size-(k+1))+1 by omega]
       rfl
     have hwf:(Lit.int .u8 (m % 256)).wf=true:=by
       simp [Lit.wf,IntKind.min,IntKind.max,IntKind.signed,IntKind.bits];omega
     have hyR:u8R.rel (fun _=>False) wr [.int .u8 (m % 256)] (m % 256):=⟨rfl,hwf⟩
     have HO:=Hd hor;have HY:=Hd hyR
     have e2:0≤m / 256:=by omega
     have e3:m / 256<18446744073709551616:=by omega
     clear hor hyR hwf
     go_wp2_with (at_builtin;refine wpList_push (r:=u8R) (wr:=wr) (es:= [.int .u8 (m % 256)]) (v:=u0) (w0:=w0) (B:=B) rfl _ _ rfl Tryz.etyBytes rfl rfl hbr hBr HO.out HY.out (fun x hx=>hx.elim) (by unfold maxLen;have:=HYL.out;omega) (by have:=HYL.out;omega) ?_)
     intro v2 w2 ho2 hb2
     have HZ:=Hd (Own.mono ho2 (F':=fun x=>False∨B≤x) fun x _ h=>by first|exact h|exact .inr h)
     have hB2:B≤w2.heap.size:=Nat.le_trans hB0 hb2.size;clear ho2;go_wp2_with fail
     go_roundw
     case rel=>exact⟨k+1,m / 256,ys++ [m % 256],by omega,by go_num,rfl,e2,e3,by rw [List.length_append,HYL.out];simp;omega,HI,HZ.out,hb2,hB2⟩
     case measure=>simp [intOf];omega
   · obtain rfl:k=size:=by omega
     have HF:Hid (ys=xs++digs k n):=by
       show _=_
       rw [←hinv.out,Nat.sub_self];simp [digs]
     go_wp2_with fail;go_ret
     exact⟨_,rfl,by rw [←HF.out];exact hor,hbr⟩
end Go.Proofs.YtjknlhiimmbilaaGreatDoor
/- Notes, statements, witnesses: data and representations; the hash of lists, in plain numbers; no conditions. -/
set_option maxRecDepth 100000
namespace Go.Proofs.YtjknlhiimmbilaaGreatDoor
open Go.ChangeShapes Go.WideShapes Go.ChangeAt Go.RowKit
structure NoteM where
 value:Int
 owner:Int
 rho:Int
 blind:Int
structure SpentM where
 note:NoteM
 key:Int
 number:Int
 position:Int
 path:List Int
 dummy:Bool
structure WitM where
 ins:List SpentM
 outs:List NoteM
 secret:Int
structure StM where
 depth:Int
 anchor:Int
 marks:List Int
 commits:List Int
 rhos:List Int
 dep:Int
 wd:Int
 fee:Int
 acc:Int
 bind:Int
def noteR:Rep NoteM:=mapR (fun n=>(n.value,n.owner,n.rho,n.blind)) (pairR u64R (pairR u64R (pairR u64R u64R)))
theorem noteR.n:noteR.n=4:=rfl
abbrev notesR:Rep (List NoteM):=sliceR noteR
def spentR:Rep SpentM:=mapR (fun s=>(s.note,s.key,s.number,s.position,s.path,s.dummy)) (pairR noteR (pairR u64R (pairR (intR .i64) (pairR (intR .i64) (pairR numsR boolR)))))
theorem spentR.n:spentR.n=9:=rfl
abbrev spentsR:Rep (List SpentM):=sliceR spentR
abbrev okI (x:Int):Prop:=(Lit.int .i64 x).wf=true
theorem okU_in {x:Int}(h:okU x):0≤x∧x<18446744073709551616:=by
 simp [okU,Lit.wf,IntKind.min,IntKind.max,IntKind.signed,IntKind.bits]at h;omega
theorem okU_of {x:Int}(h0:0≤x)(h1:x<18446744073709551616):okU x:=by
 simp [okU,Lit.wf,IntKind.min,IntKind.max,IntKind.signed,IntKind.bits];omega
theorem okI_in {x:Int}(h:okI x): -9223372036854775808≤x∧x<9223372036854775808:=by
 simp [okI,Lit.wf,IntKind.min,IntKind.max,IntKind.signed,IntKind.bits]at h;omega
theorem okI_of {x:Int}(h0: -9223372036854775808≤x)(h1:x<9223372036854775808):okI x:=by
 simp [okI,Lit.wf,IntKind.min,IntKind.max,IntKind.signed,IntKind.bits];omega
theorem okB_in {x:Int}(h:(Lit.int .u8 x).wf=true):0≤x∧x<256:=by
 simp [Lit.wf,IntKind.min,IntKind.max,IntKind.signed,IntKind.bits]at h;omega
structure NoteOk (n:NoteM):Prop where
 value:okU n.value
 owner:okU n.owner
 rho:okU n.rho
 blind:okU n.blind
theorem noteR.inv {S:Nat→Prop}{w:World}{cs:List Value}{n:NoteM}(h:noteR.rel S w cs n):cs= [.int .u64 n.value,.int .u64 n.owner,.int .u64 n.rho,.int .u64 n.blind]∧NoteOk n:=by
 obtain⟨_,_,rfl,⟨rfl,w1⟩,_,_,rfl,⟨rfl,w2⟩,_,_,rfl,⟨rfl,w3⟩,⟨rfl,w4⟩⟩:=h
 exact⟨rfl,w1,w2,w3,w4⟩
theorem noteR.mk {S:Nat→Prop}{w:World}{n:NoteM}(h:NoteOk n):noteR.rel S w [.int .u64 n.value,.int .u64 n.owner,.int .u64 n.rho,.int .u64 n.blind] n:=
 ⟨[_],[_,_,_],rfl,⟨rfl,h.value⟩,[_],[_,_],rfl,⟨rfl,h.owner⟩,[_],[_],rfl,⟨rfl,h.rho⟩,⟨rfl,h.blind⟩⟩
structure SpentOk (s:SpentM):Prop where
 note:NoteOk s.note
 key:okU s.key
 number:okI s.number
 position:okI s.position
def spentCells (s:SpentM)(a:Option Addr)(cap:Nat):List Value:=
 [.int .u64 s.note.value,.int .u64 s.note.owner,.int .u64 s.note.rho,.int .u64 s.note.blind,.int .u64 s.key,.int .i64 s.number,.int .i64 s.position,.slice a s.path.length cap,.bool s.dummy]
theorem spentR.inv {S:Nat→Prop}{w:World}{cs:List Value}{s:SpentM}(h:spentR.rel S w cs s): ∃a cap,cs=spentCells s a cap∧SpentOk s∧numsR.rel S w [.slice a s.path.length cap] s.path:=by
 obtain⟨c1,_,rfl,h1,_,_,rfl,⟨rfl,w2⟩,_,_,rfl,⟨rfl,w3⟩,_,_,rfl,⟨rfl,w4⟩,_,_,rfl,h5,rfl⟩:=h;obtain⟨rfl,hn⟩:=noteR.inv h1;obtain⟨a,cap,rfl⟩:=one_form h5
 exact⟨a,cap,rfl,⟨hn,w2,w3,w4⟩,h5⟩
theorem spentR.mk {S:Nat→Prop}{w:World}{s:SpentM}{a:Option Addr}{cap:Nat}(h:SpentOk s)(hp:numsR.rel S w [.slice a s.path.length cap] s.path):spentR.rel S w (spentCells s a cap) s:=
 ⟨[_,_,_,_],[_,_,_,_,_],rfl,noteR.mk h.note,[_],[_,_,_,_],rfl,⟨rfl,h.key⟩,[_],[_,_,_],rfl,⟨rfl,h.number⟩,[_],[_,_],rfl,⟨rfl,h.position⟩,[_],[_],rfl,hp,rfl⟩
theorem nums_at {S:Nat→Prop}{w:World}{a:Option Addr}{len cap:Nat}{l:List Int}(h:numsR.rel S w [.slice a len cap] l)(k:Nat)(hk:k<l.length):
   ∃b off,a=some ⟨b,off,none⟩∧b<w.heap.size∧0≤l[k]∧l[k]<18446744073709551616∧w.cell? ⟨b,off+k,none⟩=some (.int .u64 l[k]):=by
 obtain⟨b,off,es,rfl,hb,hbl,⟨rfl,hw⟩,hca⟩:=sliceR.at h k hk;have:=hca 0 _ rfl;have h2:=okU_in hw
 exact⟨b,off,rfl,hbl,h2.1,h2.2,by simpa [intR]using this⟩
theorem nums_in {S:Nat→Prop}{w:World}{a:Option Addr}{len cap:Nat}{l:List Int}(h:numsR.rel S w [.slice a len cap] l): ∀x∈l,0≤x∧x<18446744073709551616:=by
 intro x hx
 obtain⟨k,hk,rfl⟩:=List.getElem_of_mem hx;obtain⟨b,off, -, -,h1,h2, -⟩:=nums_at h k hk
 exact⟨h1,h2⟩
theorem bytes_at {S:Nat→Prop}{w:World}{a:Option Addr}{len cap:Nat}{l:List Int}(h:bytesR.rel S w [.slice a len cap] l)(k:Nat)(hk:k<l.length):
   ∃b off,a=some ⟨b,off,none⟩∧b<w.heap.size∧S b∧0≤l[k]∧l[k]<256∧w.cell? ⟨b,off+k,none⟩=some (.int .u8 l[k]):=by
 obtain⟨b,off,es,rfl,hb,hbl,⟨rfl,hw⟩,hca⟩:=sliceR.at h k hk;have:=hca 0 _ rfl;have h2:=okB_in hw
 exact⟨b,off,rfl,hbl,hb,h2.1,h2.2,by simpa [intR]using this⟩
theorem notes_at {S:Nat→Prop}{w:World}{a:Option Addr}{len cap:Nat}{l:List NoteM}(h:notesR.rel S w [.slice a len cap] l)(k:Nat)(hk:k<l.length):
   ∃b off,a=some ⟨b,off,none⟩∧b<w.heap.size∧NoteOk l[k]∧w.cell? ⟨b,off+k*4,none⟩=some (.int .u64 l[k].value)∧w.cell? ⟨b,off+k*4+1,none⟩=some (.int .u64 l[k].owner)∧
    w.cell? ⟨b,off+k*4+2,none⟩=some (.int .u64 l[k].rho)∧w.cell? ⟨b,off+k*4+3,none⟩=some (.int .u64 l[k].blind):=by
 obtain⟨b,off,es,rfl,hb,hbl,hrel,hca⟩:=sliceR.at h k hk;obtain⟨rfl,hn⟩:=noteR.inv hrel;rw [noteR.n]at hca
 exact⟨b,off,rfl,hbl,hn,hca 0 _ rfl,hca 1 _ rfl,hca 2 _ rfl,hca 3 _ rfl⟩
theorem spents_at {S:Nat→Prop}{w:World}{a:Option Addr}{len cap:Nat}{l:List SpentM}(h:spentsR.rel S w [.slice a len cap] l)(k:Nat)(hk:k<l.length):
   ∃b off pa pc,a=some ⟨b,off,none⟩∧b<w.heap.size∧SpentOk l[k]∧numsR.rel S w [.slice pa l[k].path.length pc] l[k].path∧
    w.cell? ⟨b,off+k*9,none⟩=some (.int .u64 l[k].note.value)∧w.cell? ⟨b,off+k*9+1,none⟩=some (.int .u64 l[k].note.owner)∧
    w.cell? ⟨b,off+k*9+2,none⟩=some (.int .u64 l[k].note.rho)∧w.cell? ⟨b,off+k*9+3,none⟩=some (.int .u64 l[k].note.blind)∧
    w.cell? ⟨b,off+k*9+4,none⟩=some (.int .u64 l[k].key)∧w.cell? ⟨b,off+k*9+5,none⟩=some (.int .i64 l[k].number)∧
    w.cell? ⟨b,off+k*9+6,none⟩=some (.int .i64 l[k].position)∧w.cell? ⟨b,off+k*9+7,none⟩=some (.slice pa l[k].path.length pc)∧
    w.cell? ⟨b,off+k*9+8,none⟩=some (.bool l[k].dummy):=by
 obtain⟨b,off,es,rfl,hb,hbl,hrel,hca⟩:=sliceR.at h k hk;obtain⟨pa,pc,rfl,hn,hp⟩:=spentR.inv hrel;rw [spentR.n]at hca
 exact⟨b,off,pa,pc,rfl,hbl,hn,hp,hca 0 _ rfl,hca 1 _ rfl,hca 2 _ rfl,hca 3 _ rfl,hca 4 _ rfl,hca 5 _ rfl,hca 6 _ rfl,hca 7 _ rfl,hca 8 _ rfl⟩
def absLoop (s:T3):List Int→T3
 | []=>s
 | [x]=>permS (addP s.1 x,s.2.1,s.2.2)
 |x::y::r=>absLoop (permS (addP s.1 x,addP s.2.1 y,s.2.2)) r
def absStart (label:Int)(n:Nat):T3:=(0,0,addP (mulP label 65536) n)
def absorbS (label:Int)(l:List Int):T3:=if l.length=0 then permS (absStart label 0)else absLoop (absStart label l.length) l
def hashS (label:Int)(l:List Int):Int:=(absorbS label l).1
theorem permS_in (s:T3):0≤(permS s).1∧(permS s).1<18446744069414584321:=addP_in _ _
theorem permS_words (s:T3):Words3 (permS s):=mixS_words _
theorem absLoop_in: ∀(s:T3) (l:List Int),l≠ []→0≤(absLoop s l).1∧(absLoop s l).1<18446744069414584321
 |_,[],h=>absurd rfl h
 |_,[_],_=>permS_in _
 |_,[_,_],_=>permS_in _
 |_,_::_::z::r,_=>absLoop_in _ (z::r) (by simp)
theorem hashS_in (label:Int)(l:List Int):0≤hashS label l∧hashS label l<18446744069414584321:=by
 unfold hashS absorbS
 split
 · exact permS_in _
 · exact absLoop_in _ _ (fun h=>by simp [h]at*)
theorem absStart_words (label:Int)(n:Nat):Words3 (absStart label n):=by
 have:=addP_word (mulP label 65536) n
 unfold Words3 absStart;simp;omega
theorem absLoop_two (s:T3)(l:List Int)(i:Nat)(h:i+1<l.length):absLoop s (l.drop i)=absLoop (permS (addP s.1 l[i],addP s.2.1 l[i+1],s.2.2)) (l.drop (i+2)):=by
 rw [List.drop_eq_getElem_cons (show i<l.length by omega),List.drop_eq_getElem_cons h];rfl
theorem absLoop_one (s:T3)(l:List Int)(i:Nat)(h:i<l.length)(h2:l.length≤i+1):absLoop s (l.drop i)=permS (addP s.1 l[i],s.2.1,s.2.2):=by
 rw [List.drop_eq_getElem_cons h,List.drop_of_length_le h2];rfl
def leN:List Int→Int
 | []=>0
 |d::r=>d+256*leN r
theorem leN_snoc: ∀(l:List Int) (d:Int),leN (l++ [d])=leN l+d*256^l.length
 | [],d=>by simp [leN]
 |x::l,d=>by
  simp only [List.cons_append,leN,leN_snoc l d,List.length_cons,Int.pow_succ]
  rw [Int.mul_add,←Int.mul_assoc,Int.mul_comm 256 d,Int.mul_assoc,Int.mul_comm 256 (256^l.length),Int.add_assoc]
theorem leN_in: ∀(l:List Int),(∀d∈l,0≤d∧d<256)→0≤leN l∧leN l<256^l.length
 | [],_=>by simp [leN]
 |x::l,h=>by
  have h1:=h x (by simp)
  have h2:=leN_in l fun d hd=>h d (by simp [hd])
  simp only [leN,List.length_cons,Int.pow_succ]
  omega
end Go.Proofs.YtjknlhiimmbilaaGreatDoor
/- The permutation at the big prime: Permute. -/
set_option maxRecDepth 100000
set_option maxHeartbeats 4000000
namespace Go.Proofs.YtjknlhiimmbilaaGreatDoor
open Go.ChangeShapes Go.WideShapes Go.ChangeAt Go.RowKit Go.Sort
def PermAt (w:World)(s:T3)(wr:World):Prop:=
 Below w.heap.size w wr∧wr.heap[w.heap.size]? =some (.cells #[.int .u64 s.1,.int .u64 s.2.1,.int .u64 s.2.2] 205 (0,0))∧
   wr.heap[w.heap.size+1]? =some (.cells #[.int .u64 0,.int .u64 0,.int .u64 0] 205 (0,0))∧wr.heap[w.heap.size+2]? =some (.cells #[.int .u64 18446744069414584321] 219 (0,0))
theorem PermAt.next {w w1 w2:World}{s:T3}(h:PermAt w s w1)(hb:Below w1.heap.size w1 w2):PermAt w s w2:=
 ⟨bnext h.1 hb,box_after hb h.2.1,box_after hb h.2.2.1,box_after hb h.2.2.2⟩
theorem PermAt.start (w:World)(s:T3):PermAt w s (((w.alloc (.cells #[.int .u64 s.1,.int .u64 s.2.1,.int .u64 s.2.2] 205)).alloc (.cells #[.int .u64 0,.int .u64 0,.int .u64 0] 205)).alloc (.cells #[.int .u64 18446744069414584321] 219)):=by
 obtain⟨q1,q2,q3⟩:=three_new w (.cells #[.int .u64 s.1,.int .u64 s.2.1,.int .u64 s.2.2] 205) (.cells #[.int .u64 0,.int .u64 0,.int .u64 0] 205) (.cells #[.int .u64 18446744069414584321] 219)
 exact⟨bnew (bnew (bnew (Below.refl _ _) _) _) _,q3,q2,q1⟩
theorem PermAt.store {w wr:World}{s:T3}(h:PermAt w s wr)(t:T3):PermAt w t (((wr.setCell ⟨w.heap.size,0,none⟩ (.int .u64 t.1)).setCell ⟨w.heap.size,1,none⟩ (.int .u64 t.2.1)).setCell ⟨w.heap.size,2,none⟩ (.int .u64 t.2.2)):=by
 obtain⟨h1,h2,h3,h4⟩:=h
 refine⟨((h1.setCell (Nat.le_refl _) _).setCell (Nat.le_refl _) _).setCell (Nat.le_refl _) _,box_set (box_set (box_set h2)),?_,?_⟩
 · have e1:w.heap.size+1≠w.heap.size:=by omega
   exact box_set_far (box_set_far (box_set_far h3 e1) e1) e1
 · have e1:w.heap.size+2≠w.heap.size:=by omega
   exact box_set_far (box_set_far (box_set_far h4 e1) e1) e1
theorem PermAt.one {w wr:World}{s t:T3}(h:PermAt w s wr)(i:Nat)(v:Value)(ht:(#[.int .u64 s.1,.int .u64 s.2.1,.int .u64 s.2.2]:Array Value).setIfInBounds i v= #[.int .u64 t.1,.int .u64 t.2.1,.int .u64 t.2.2]):PermAt w t (wr.setCell ⟨w.heap.size,i,none⟩ v):=by
 obtain⟨h1,h2,h3,h4⟩:=h
 refine⟨h1.setCell (Nat.le_refl _) _,ht▸box_set h2,?_,?_⟩
 · have e1:w.heap.size+1≠w.heap.size:=by omega
   exact box_set_far h3 e1
 · have e1:w.heap.size+2≠w.heap.size:=by omega
   exact box_set_far h4 e1
theorem cstP_word (r i:Int):0≤cstP r i:=by unfold cstP;exact(redP_in _).1
def stepS (r:Int)(s:T3):Nat→T3
 |0=>s
 |1=>(sbox r 0 s.1,s.2.1,s.2.2)
 |2=>(sbox r 0 s.1,sbox r 1 s.2.1,s.2.2)
 |_=>(sbox r 0 s.1,sbox r 1 s.2.1,sbox r 2 s.2.2)
theorem permute_big (s:T3)(hs:Words3 s)(w:World):
   Calls Tryz.prog 186 #[.int .u64 18446744069414584321,.agg #[.int .u64 s.1,.int .u64 s.2.1,.int .u64 s.2.2]] w
     fun e w'=>e= .returned (.agg #[.int .u64 (permS s).1,.int .u64 (permS s).2.1,.int .u64 (permS s).2.2])∧Below w.heap.size w w':=by
 have hst:=Hd (PermAt.start w s);have HW:=Hd (permTo_words hs);clear hs
 go_enter Tryz.func186,Tryz.ntmps186
 go_wp2_with fail
 refine(valid_big _).mono ?_
 rintro e w1 ⟨rfl,hb1⟩;have h1:=hst.out.next hb1;obtain⟨x0,x1⟩:=box_cells h1.2.2.2;go_wp2_with fail
 refine(exponent_big _).mono ?_
 rintro e w2 ⟨rfl,hb2⟩;have h2:=h1.next hb2;clear x0 x1 h1 hst hb1 hb2;go_wp2_with fail
 go_loopw [17] (fun i wr=> ∃k:Nat,k≤8∧i= .int .i64 k∧PermAt w (permTo s k) wr) (fun i _=>8-(intOf i).toNat)
 case atStart=>exact⟨0,by omega,rfl,h2⟩
 case round=>
   obtain⟨k,hk,rfl,hp⟩:=hrel;clear h2
   by_cases hlt:k<8
   · have hwk:=HW.out k
     have hsucc:Hid (permTo s (k+1)=mixS (stepS k (permTo s k) 3)):=rfl;generalize permTo s k=t at*
     have n0:(0:Int)≤(k:Int):=by omega
     have n1:(k:Int)<8:=by omega
     go_wp2_with fail
     go_loopw [20] (fun i wr=> ∃j:Nat,j≤3∧i= .int .i64 j∧PermAt w (stepS k t j) wr) (fun i _=>3-(intOf i).toNat)
     case atStart=>exact⟨0,by omega,rfl,hp⟩
     case round=>
       obtain⟨j,hj,rfl,hq⟩:=hrel;clear hp
       by_cases hj3:j<3
       · have hcase:j=0∨j=1∨j=2:=by omega
         rcases hcase with h0|h0|h0
         · obtain rfl:j=0:=by omega
           have hq':PermAt w (t.1,t.2.1,t.2.2) wr:=hq;have HQ:=Hd hq';have x0:=box_regrown hq'.2.1;have y0:=box_regrown hq'.2.2.2;clear hq hq'
           have hx:0≤t.1:=by unfold Words3 at hwk;omega
           have hc:=cstP_word k 0;have ha:=addP_word t.1 (cstP k 0);go_wp2_with fail
           refine wp_region_quiet_tail 14 (by kernel_rfl) (by kernel_rfl) ?_
           simp only [List.take_succ_cons,List.take_zero,List.drop_succ_cons,List.drop_zero]
           repeat (quiet_step (first
             |exact Calls.regrown_of (constant_big k 0 n0 n1 (by omega) (by omega) _)
             |exact Calls.regrown_of (Add_big t.1 (cstP k 0) hx hc _)
             |exact Calls.regrown_of (Pow_big (addP t.1 (cstP k 0)) ha.1 7 (by omega) _)))
           refine wpQuiet_nil ?_
           intro wq hw'
           obtain⟨⟨dq,osq⟩,hw''⟩:=hw';have hbq:=below_regrown wr dq osq;rw [←hw'']at hbq;clear hw'' x0 y0;have pC:=PermAt.next HQ.out hbq;obtain⟨c0,c1⟩:=box_cells pC.2.1;have HN:=Hd (PermAt.one (t:=(sbox k 0 t.1,t.2.1,t.2.2)) pC 0 (.int .u64 (sbox k 0 t.1)) rfl);clear pC;unfold sbox at HN;go_wp2_with fail
           go_roundw
           case rel=>exact⟨1,by omega,by go_num,HN.out⟩
           case measure=>simp [intOf]
         · obtain rfl:j=1:=by omega
           have hq':PermAt w (sbox k 0 t.1,t.2.1,t.2.2) wr:=hq;have HQ:=Hd hq';have x0:=box_regrown hq'.2.1;have y0:=box_regrown hq'.2.2.2;clear hq hq'
           have hx:0≤t.2.1:=by unfold Words3 at hwk;omega
           have hc:=cstP_word k 1;have ha:=addP_word t.2.1 (cstP k 1);go_wp2_with fail
           refine wp_region_quiet_tail 14 (by kernel_rfl) (by kernel_rfl) ?_
           simp only [List.take_succ_cons,List.take_zero,List.drop_succ_cons,List.drop_zero]
           repeat (quiet_step (first
             |exact Calls.regrown_of (constant_big k 1 n0 n1 (by omega) (by omega) _)
             |exact Calls.regrown_of (Add_big t.2.1 (cstP k 1) hx hc _)
             |exact Calls.regrown_of (Pow_big (addP t.2.1 (cstP k 1)) ha.1 7 (by omega) _)))
           refine wpQuiet_nil ?_
           intro wq hw'
           obtain⟨⟨dq,osq⟩,hw''⟩:=hw';have hbq:=below_regrown wr dq osq;rw [←hw'']at hbq;clear hw'' x0 y0;have pC:=PermAt.next HQ.out hbq;obtain⟨c0,c1⟩:=box_cells pC.2.1;have HN:=Hd (PermAt.one (t:=(sbox k 0 t.1,sbox k 1 t.2.1,t.2.2)) pC 1 (.int .u64 (sbox k 1 t.2.1)) rfl);clear pC;unfold sbox at HN;go_wp2_with fail
           go_roundw
           case rel=>exact⟨2,by omega,by go_num,HN.out⟩
           case measure=>simp [intOf]
         · obtain rfl:j=2:=by omega
           have hq':PermAt w (sbox k 0 t.1,sbox k 1 t.2.1,t.2.2) wr:=hq;have HQ:=Hd hq';have x0:=box_regrown hq'.2.1;have y0:=box_regrown hq'.2.2.2;clear hq hq'
           have hx:0≤t.2.2:=by unfold Words3 at hwk;omega
           have hc:=cstP_word k 2;have ha:=addP_word t.2.2 (cstP k 2);go_wp2_with fail
           refine wp_region_quiet_tail 14 (by kernel_rfl) (by kernel_rfl) ?_
           simp only [List.take_succ_cons,List.take_zero,List.drop_succ_cons,List.drop_zero]
           repeat (quiet_step (first
             |exact Calls.regrown_of (constant_big k 2 n0 n1 (by omega) (by omega) _)
             |exact Calls.regrown_of (Add_big t.2.2 (cstP k 2) hx hc _)
             |exact Calls.regrown_of (Pow_big (addP t.2.2 (cstP k 2)) ha.1 7 (by omega) _)))
           refine wpQuiet_nil ?_
           intro wq hw'
           obtain⟨⟨dq,osq⟩,hw''⟩:=hw';have hbq:=below_regrown wr dq osq;rw [←hw'']at hbq;clear hw'' x0 y0;have pC:=PermAt.next HQ.out hbq;obtain⟨c0,c1⟩:=box_cells pC.2.1;have HN:=Hd (PermAt.one (t:=(sbox k 0 t.1,sbox k 1 t.2.1,sbox k 2 t.2.2)) pC 2 (.int .u64 (sbox k 2 t.2.2)) rfl);clear pC;unfold sbox at HN;go_wp2_with fail
           go_roundw
           case rel=>exact⟨3,by omega,by go_num,HN.out⟩
           case measure=>simp [intOf]
       · obtain rfl:j=3:=by omega
         have HQ:=Hd hq;obtain⟨x0,x1⟩:=box_cells hq.2.1;clear hq;generalize hu:stepS k t 3=u at*;have HU:=Hd hu
         have hu0:0≤u.1∧0≤u.2.1∧0≤u.2.2:=by
           rw [←hu];exact⟨(sbox_word _ _ _).1,(sbox_word _ _ _).1,(sbox_word _ _ _).1⟩
         clear hu;go_wp2_with fail
         refine(mix_big u.1 u.2.1 u.2.2 hu0.1 hu0.2.1 hu0.2.2 _).mono ?_
         rintro e w3 ⟨rfl,hb3⟩;have h3:=HQ.out.next hb3;clear x0 x1;obtain⟨x0,x1⟩:=box_cells h3.2.1;have HN:=Hd (PermAt.store h3 (mixS (u.1,u.2.1,u.2.2)));clear h3;go_wp2_with fail
         go_roundw
         case rel=>exact⟨k+1,by omega,by go_num,by rw [hsucc.out];exact HN.out⟩
         case measure=>simp [intOf];omega
   · obtain rfl:k=8:=by omega
     obtain⟨h1,h2,h3,h4⟩:=hp;obtain⟨x0,x1⟩:=box_cells h2;obtain⟨y0,y1⟩:=box_cells h3;have hpe:Hid (permS s=permTo s 8):=rfl;generalize permTo s 8=t at*;obtain⟨r0,r1,r2⟩:=read3 (x:= .int .u64 t.1) (y:= .int .u64 t.2.1) (z:= .int .u64 t.2.2) (y0 0) (y0 1) (y0 2);go_wp2_with fail
     refine bodyPost_ret (v:= .agg #[.int .u64 t.1,.int .u64 t.2.1,.int .u64 t.2.2]) (by simp [results,Tryz.results186,go_sem,r0,r1,r2]) rfl ⟨by rw [hpe.out],?_⟩
     exact((h1.setCell (Nat.le_succ _) _).setCell (Nat.le_succ _) _).setCell (Nat.le_succ _) _
end Go.Proofs.YtjknlhiimmbilaaGreatDoor
