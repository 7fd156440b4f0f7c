/-
 Laws drawn from elder texts. Helper lemmas;no statement of the seat is proved here.
-/
import Derived.Test.YtngmgjodcnknoaaGreatDoorU6
namespace Go.Proofs.YtngmgjodcnknoaaGreatDoor
open Go.RowKit
set_option maxHeartbeats 32000000
set_option maxRecDepth 100000
set_option linter.unusedVariables false
set_option linter.unusedSimpArgs false
theorem encode_some (m:Int) (w:World) (m1: -2147483648≤m) (m2:m< 2147483648):Calls Tryz.prog 180 #[.int .i32 m] w fun e w'=>RetNums .u8 4 (fun b=>w.heap.size≤b) e w'∧Ext w w':=by
 by_cases h1:m< 0
 ·
  go_enter Tryz.func180,Tryz.ntmps180;go_wp2_with fail;go_ret;exact⟨retNums_nil _ _ _ _,Ext.refl _⟩
 ·
  by_cases h2:1114111< m
  ·
   go_enter Tryz.func180,Tryz.ntmps180;go_wp2_with fail;go_ret;exact⟨retNums_nil _ _ _ _,Ext.refl _⟩
  ·
   by_cases h3:55296≤m
   ·
    by_cases h4:m≤57343
    ·
     go_enter Tryz.func180,Tryz.ntmps180;go_wp2_with fail;go_ret;exact⟨retNums_nil _ _ _ _,Ext.refl _⟩
    ·
     have n128:¬m< 128:=by omega
     have n2048:¬m< 2048:=by omega
     by_cases h5:m< 65536
     ·
      go_enter Tryz.func180,Tryz.ntmps180;go_wp2_with fail;go_ret;exact⟨retNums_new .u8 w _ [_,_,_] _ rfl 3 rfl kI,(Ext.refl _).alloc _⟩
     ·
      go_enter Tryz.func180,Tryz.ntmps180;go_wp2_with fail;go_ret;exact⟨retNums_new .u8 w _ [_,_,_,_] _ rfl 4 rfl kI,(Ext.refl _).alloc _⟩
   ·
    have n65:m< 65536:=by omega
    by_cases h5:m< 128
    ·
     go_enter Tryz.func180,Tryz.ntmps180;go_wp2_with fail;go_ret;exact⟨retNums_new .u8 w _ [_] _ rfl 1 rfl kI,(Ext.refl _).alloc _⟩
    ·
     by_cases h6:m< 2048
     ·
      go_enter Tryz.func180,Tryz.ntmps180;go_wp2_with fail;go_ret;exact⟨retNums_new .u8 w _ [_,_] _ rfl 2 rfl kI,(Ext.refl _).alloc _⟩
     ·
      go_enter Tryz.func180,Tryz.ntmps180;go_wp2_with fail;go_ret;exact⟨retNums_new .u8 w _ [_,_,_] _ rfl 3 rfl kI,(Ext.refl _).alloc _⟩
def bnd (k:Nat):Int:=if k=1 then 256 else if k=2 then 16448 else if k=3 then 1052736 else 67375168
theorem bnd_step (k:Nat) (v c:Int) (h1:1≤k) (h2:k≤3) (hv:v< bnd k) (hc:c< 64):v*64+c< bnd (k+1):=by
 unfold bnd at*
 have:k=1∨k=2∨k=3:=by omega
 rcases this with rfl | rfl | rfl<;> simp at*<;> omega
theorem bnd_le (k:Nat):bnd k≤67375168:=by unfold bnd;split<;> (try split)<;> (try split)<;> omega
def RetRune (n:Nat) (e:Ending):Prop:=∃(r:Int) (m:Nat),e= .returned (.tuple #[.int .i32 r,.int .i64 m])∧m≤n
theorem next_any (p:Nat→Prop) (l:List Int) (hl:∀(i:Nat) (h:i< l.length),0≤l[i]∧l[i]< 256) (at':Nat) (hat:at'< l.length) (hll:l.length≤16777216) (v:Value) (w:World) (h:Rep w p v (numsD .u8 l)):
  Calls Tryz.prog 148 #[v,.int .i64 at'] w fun e w'=>RetRune (l.length - at') e∧Ext w w':=by
 obtain⟨a,c,rfl,hc1,hc2⟩:=h.count (z_num .u8) kA
 obtain⟨g,o,rfl,lg,_,c0⟩:=num_at h at' hat
 have HL:=Lh hl
 have hatI:¬(l.length:Int)≤(at':Int):=by omega
 have hatJ:(at':Int)< (l.length:Int):=by omega
 have hat0:¬(at':Int)< 0:=by omega
 have hb0:=hl at' hat
 obtain⟨x0,hx0⟩:∃x,l[at']=x:=⟨_,rfl⟩
 rw[hx0]at c0 hb0
 obtain⟨x00,x01⟩:=hb0
 clear hl hx0
 go_enter Tryz.func148,Tryz.ntmps148
 go_wp2_with fail
 go_loopw [6,7,8,9,10,11] (fun t _ _ _ _ _ wr=>∃n:Nat,t= .int .i64 n∧1≤n∧n≤5∧Ext w wr) (fun t _ _ _ _ _ _=>downV 5 t)
 case atStart=>exact⟨1,rfl,by omega,by omega,Ext.refl _⟩
 case round=>
  obtain⟨n,rfl,n1,n5,hX⟩:=hrel
  have cr:=hX.keep lg c0
  have lgr:g< wr.heap.size:=Nat.lt_of_lt_of_le lg hX.size
  by_cases hn4:n≤4
  ·
   have hnI:(n:Int)≤4:=by omega
   have hn0:=nZ0 n
   by_cases hfit:at'+n≤l.length
   ·
    have hfI:(at':Int)+(n:Int)≤(l.length:Int):=by omega
    have hrep:=h.ext hX
    have hm1:x0.tmod 32=x0 % 32:=Int.tmod_eq_emod_of_nonneg x00
    have hm2:x0.tmod 16=x0 % 16:=Int.tmod_eq_emod_of_nonneg x00
    have hm3:x0.tmod 8=x0 % 8:=Int.tmod_eq_emod_of_nonneg x00
    have HM:=Lh (And.intro hm1 (And.intro hm2 hm3))
    clear hm1 hm2 hm3
    obtain⟨wz,hwz⟩:∃wz,wz=wr:=⟨_,rfl⟩
    subst hwz
    have hn:n=1∨n=2∨n=3∨n=4:=by omega
    rcases hn with rfl | rfl | rfl | rfl
    ·
     clear n1 n5 hn4 hnI hn0
     go_wp2_with fail
     go_loopw [7,8] (fun x t wr'=>∃(y:Int) (k:Nat),x= .int .i64 y∧t= .int .i64 k∧1≤k∧k≤1∧0≤y∧y< bnd k∧wr'=wz) (fun _ t _=>downV 4 t)
     case atStart=>
      refine⟨_,1,rfl,rfl,by omega,by omega,?_,?_,rfl⟩
      all_goals (try rw[HM.out.1]);(try rw[HM.out.2.1]);(try rw[HM.out.2.2]);(try unfold bnd);(try simp only[if_true]);omega
     case round=>
      obtain⟨y,k,rfl,rfl,k1,kn,y0,yb,rfl⟩:=hrel
      have hk0:=nZ0 k
      have ybI:=bnd_le k
      have yb2:y< 2147483648:=by omega
      have yb3: -2147483648≤y:=by omega
      have yc:y*64≤9223372036854775000:=by omega
      by_cases hkn:k< 1
      ·
       have hkI:(k:Int)< 1:=by omega
       obtain⟨g',o',e',lg',_,ck⟩:=num_at hrep (at'+k) kA
       cases e'
       have hb1:=HL.out (at'+k) kA
       obtain⟨x1,hx1⟩:∃x,l[at'+k]=x:=⟨_,rfl⟩
       rw[hx1]at ck hb1
       obtain⟨x10,x11⟩:=hb1
       have hm:x1.tmod 64=x1 % 64:=Int.tmod_eq_emod_of_nonneg x10
       have hst:=bnd_step k y (x1 % 64) k1 kA yb kA
       clear hx1
       have HHM:=Lh (And.intro hm hst)
       clear hm hst
       go_wp2_with fail
       go_roundw
       case rel=>
        refine⟨_,k+1,rfl,by go_num,by omega,by omega,?_,?_⟩
        ·
         omega
        ·
         exact⟨HHM.out.2,trivial⟩
       case measure=>exact mZ
      ·
       have hkI:¬(k:Int)< 1:=by omega
       clear yc
       go_wp2_with fail
       refine(encode_some _ _ kA kA).mono ?_
       rintro e w3 ⟨⟨E,hE4,ev,rfl,hev⟩,hB3⟩
       obtain⟨ea,ec,rfl,_,_⟩:=hev.count (z_num .u8) kA
       have hX3:=hX.trans hB3
       by_cases hEn:E.length=1
       ·
        have q1:((E.length:Int) !=1)=false:=by rw[hEn];rfl
        go_wp2_with fail
        refine(char_any _ _).mono ?_
        rintro _ w4 ⟨⟨cb,rfl,_⟩,rfl⟩
        cases cb with
        | false=>
         go_wp2_with fail
         go_roundw
         case rel=>exact⟨2,by go_num,by omega,by omega,hX3⟩
         case measure=>exact mZ
        | true=>
         go_wp2_with fail
         go_loopw [10,11] (fun x t wr'=>∃(s:Bool) (j:Nat),x= .bool s∧t= .int .i64 j∧j≤1∧Dr w4 wr') (fun _ t _=>downV 4 t)
         case atStart=>exact⟨true,0,rfl,rfl,by omega,Dr.refl _⟩
         case round=>
          obtain⟨s,j,rfl,rfl,hj,hD⟩:=hrel
          have hj0:=nZ0 j
          by_cases hjn:j< 1
          ·
           have hjI:(j:Int)< 1:=by omega
           have hjE:(j:Int)< (E.length:Int):=by omega
           obtain⟨g2,o2,rfl,lg2,_,c2⟩:=num_at (hev.ext hD.ext) j kA
           obtain⟨g',o',e',lg',_,ck⟩:=num_at (hrep.ext (hB3.trans hD.ext)) (at'+j) kA
           cases e'
           cases s with
           | true=>
            go_wp2_with fail
            go_quiet (fail)
            go_wp2_with fail
            go_roundw
            case rel=>exact⟨_,j+1,rfl,by go_num,by omega,hD.drewN _⟩
            case measure=>exact mZ
           | false=>
            go_wp2_with fail
            go_quiet (fail)
            go_wp2_with fail
            go_roundw
            case rel=>exact⟨_,j+1,rfl,by go_num,by omega,hD.drewN _⟩
            case measure=>exact mZ
          ·
           have hjI:¬(j:Int)< 1:=by omega
           cases s with
           | true=>
            go_wp2_with fail
            go_ret2
            exact⟨⟨_,1,rfl,by omega⟩,hX3.trans hD.ext⟩
           | false=>
            go_wp2_with fail
            go_roundw
            case rel=>exact⟨2,by go_num,by omega,by omega,hX3.trans hD.ext⟩
            case measure=>exact mZ
       ·
        have q1:((E.length:Int) !=1)=true:=by rw[bne_iff_ne];omega
        go_wp2_with fail
        go_roundw
        case rel=>exact⟨2,by go_num,by omega,by omega,hX3⟩
        case measure=>exact mZ
    ·
     clear n1 n5 hn4 hnI hn0
     go_wp2_with fail
     go_loopw [7,8] (fun x t wr'=>∃(y:Int) (k:Nat),x= .int .i64 y∧t= .int .i64 k∧1≤k∧k≤2∧0≤y∧y< bnd k∧wr'=wz) (fun _ t _=>downV 4 t)
     case atStart=>
      refine⟨_,1,rfl,rfl,by omega,by omega,?_,?_,rfl⟩
      all_goals (try rw[HM.out.1]);(try rw[HM.out.2.1]);(try rw[HM.out.2.2]);(try unfold bnd);(try simp only[if_true]);omega
     case round=>
      obtain⟨y,k,rfl,rfl,k1,kn,y0,yb,rfl⟩:=hrel
      have hk0:=nZ0 k
      have ybI:=bnd_le k
      have yb2:y< 2147483648:=by omega
      have yb3: -2147483648≤y:=by omega
      have yc:y*64≤9223372036854775000:=by omega
      by_cases hkn:k< 2
      ·
       have hkI:(k:Int)< 2:=by omega
       obtain⟨g',o',e',lg',_,ck⟩:=num_at hrep (at'+k) kA
       cases e'
       have hb1:=HL.out (at'+k) kA
       obtain⟨x1,hx1⟩:∃x,l[at'+k]=x:=⟨_,rfl⟩
       rw[hx1]at ck hb1
       obtain⟨x10,x11⟩:=hb1
       have hm:x1.tmod 64=x1 % 64:=Int.tmod_eq_emod_of_nonneg x10
       have hst:=bnd_step k y (x1 % 64) k1 kA yb kA
       clear hx1
       have HHM:=Lh (And.intro hm hst)
       clear hm hst
       go_wp2_with fail
       go_roundw
       case rel=>
        refine⟨_,k+1,rfl,by go_num,by omega,by omega,?_,?_⟩
        ·
         omega
        ·
         exact⟨HHM.out.2,trivial⟩
       case measure=>exact mZ
      ·
       have hkI:¬(k:Int)< 2:=by omega
       clear yc
       go_wp2_with fail
       refine(encode_some _ _ kA kA).mono ?_
       rintro e w3 ⟨⟨E,hE4,ev,rfl,hev⟩,hB3⟩
       obtain⟨ea,ec,rfl,_,_⟩:=hev.count (z_num .u8) kA
       have hX3:=hX.trans hB3
       by_cases hEn:E.length=2
       ·
        have q1:((E.length:Int) !=2)=false:=by rw[hEn];rfl
        go_wp2_with fail
        refine(char_any _ _).mono ?_
        rintro _ w4 ⟨⟨cb,rfl,_⟩,rfl⟩
        cases cb with
        | false=>
         go_wp2_with fail
         go_roundw
         case rel=>exact⟨3,by go_num,by omega,by omega,hX3⟩
         case measure=>exact mZ
        | true=>
         go_wp2_with fail
         go_loopw [10,11] (fun x t wr'=>∃(s:Bool) (j:Nat),x= .bool s∧t= .int .i64 j∧j≤2∧Dr w4 wr') (fun _ t _=>downV 4 t)
         case atStart=>exact⟨true,0,rfl,rfl,by omega,Dr.refl _⟩
         case round=>
          obtain⟨s,j,rfl,rfl,hj,hD⟩:=hrel
          have hj0:=nZ0 j
          by_cases hjn:j< 2
          ·
           have hjI:(j:Int)< 2:=by omega
           have hjE:(j:Int)< (E.length:Int):=by omega
           obtain⟨g2,o2,rfl,lg2,_,c2⟩:=num_at (hev.ext hD.ext) j kA
           obtain⟨g',o',e',lg',_,ck⟩:=num_at (hrep.ext (hB3.trans hD.ext)) (at'+j) kA
           cases e'
           cases s with
           | true=>
            go_wp2_with fail
            go_quiet (fail)
            go_wp2_with fail
            go_roundw
            case rel=>exact⟨_,j+1,rfl,by go_num,by omega,hD.drewN _⟩
            case measure=>exact mZ
           | false=>
            go_wp2_with fail
            go_quiet (fail)
            go_wp2_with fail
            go_roundw
            case rel=>exact⟨_,j+1,rfl,by go_num,by omega,hD.drewN _⟩
            case measure=>exact mZ
          ·
           have hjI:¬(j:Int)< 2:=by omega
           cases s with
           | true=>
            go_wp2_with fail
            go_ret2
            exact⟨⟨_,2,rfl,by omega⟩,hX3.trans hD.ext⟩
           | false=>
            go_wp2_with fail
            go_roundw
            case rel=>exact⟨3,by go_num,by omega,by omega,hX3.trans hD.ext⟩
            case measure=>exact mZ
       ·
        have q1:((E.length:Int) !=2)=true:=by rw[bne_iff_ne];omega
        go_wp2_with fail
        go_roundw
        case rel=>exact⟨3,by go_num,by omega,by omega,hX3⟩
        case measure=>exact mZ
    ·
     clear n1 n5 hn4 hnI hn0
     go_wp2_with fail
     go_loopw [7,8] (fun x t wr'=>∃(y:Int) (k:Nat),x= .int .i64 y∧t= .int .i64 k∧1≤k∧k≤3∧0≤y∧y< bnd k∧wr'=wz) (fun _ t _=>downV 4 t)
     case atStart=>
      refine⟨_,1,rfl,rfl,by omega,by omega,?_,?_,rfl⟩
      all_goals (try rw[HM.out.1]);(try rw[HM.out.2.1]);(try rw[HM.out.2.2]);(try unfold bnd);(try simp only[if_true]);omega
     case round=>
      obtain⟨y,k,rfl,rfl,k1,kn,y0,yb,rfl⟩:=hrel
      have hk0:=nZ0 k
      have ybI:=bnd_le k
      have yb2:y< 2147483648:=by omega
      have yb3: -2147483648≤y:=by omega
      have yc:y*64≤9223372036854775000:=by omega
      by_cases hkn:k< 3
      ·
       have hkI:(k:Int)< 3:=by omega
       obtain⟨g',o',e',lg',_,ck⟩:=num_at hrep (at'+k) kA
       cases e'
       have hb1:=HL.out (at'+k) kA
       obtain⟨x1,hx1⟩:∃x,l[at'+k]=x:=⟨_,rfl⟩
       rw[hx1]at ck hb1
       obtain⟨x10,x11⟩:=hb1
       have hm:x1.tmod 64=x1 % 64:=Int.tmod_eq_emod_of_nonneg x10
       have hst:=bnd_step k y (x1 % 64) k1 kA yb kA
       clear hx1
       have HHM:=Lh (And.intro hm hst)
       clear hm hst
       go_wp2_with fail
       go_roundw
       case rel=>
        refine⟨_,k+1,rfl,by go_num,by omega,by omega,?_,?_⟩
        ·
         omega
        ·
         exact⟨HHM.out.2,trivial⟩
       case measure=>exact mZ
      ·
       have hkI:¬(k:Int)< 3:=by omega
       clear yc
       go_wp2_with fail
       refine(encode_some _ _ kA kA).mono ?_
       rintro e w3 ⟨⟨E,hE4,ev,rfl,hev⟩,hB3⟩
       obtain⟨ea,ec,rfl,_,_⟩:=hev.count (z_num .u8) kA
       have hX3:=hX.trans hB3
       by_cases hEn:E.length=3
       ·
        have q1:((E.length:Int) !=3)=false:=by rw[hEn];rfl
        go_wp2_with fail
        refine(char_any _ _).mono ?_
        rintro _ w4 ⟨⟨cb,rfl,_⟩,rfl⟩
        cases cb with
        | false=>
         go_wp2_with fail
         go_roundw
         case rel=>exact⟨4,by go_num,by omega,by omega,hX3⟩
         case measure=>exact mZ
        | true=>
         go_wp2_with fail
         go_loopw [10,11] (fun x t wr'=>∃(s:Bool) (j:Nat),x= .bool s∧t= .int .i64 j∧j≤3∧Dr w4 wr') (fun _ t _=>downV 4 t)
         case atStart=>exact⟨true,0,rfl,rfl,by omega,Dr.refl _⟩
         case round=>
          obtain⟨s,j,rfl,rfl,hj,hD⟩:=hrel
          have hj0:=nZ0 j
          by_cases hjn:j< 3
          ·
           have hjI:(j:Int)< 3:=by omega
           have hjE:(j:Int)< (E.length:Int):=by omega
           obtain⟨g2,o2,rfl,lg2,_,c2⟩:=num_at (hev.ext hD.ext) j kA
           obtain⟨g',o',e',lg',_,ck⟩:=num_at (hrep.ext (hB3.trans hD.ext)) (at'+j) kA
           cases e'
           cases s with
           | true=>
            go_wp2_with fail
            go_quiet (fail)
            go_wp2_with fail
            go_roundw
            case rel=>exact⟨_,j+1,rfl,by go_num,by omega,hD.drewN _⟩
            case measure=>exact mZ
           | false=>
            go_wp2_with fail
            go_quiet (fail)
            go_wp2_with fail
            go_roundw
            case rel=>exact⟨_,j+1,rfl,by go_num,by omega,hD.drewN _⟩
            case measure=>exact mZ
          ·
           have hjI:¬(j:Int)< 3:=by omega
           cases s with
           | true=>
            go_wp2_with fail
            go_ret2
            exact⟨⟨_,3,rfl,by omega⟩,hX3.trans hD.ext⟩
           | false=>
            go_wp2_with fail
            go_roundw
            case rel=>exact⟨4,by go_num,by omega,by omega,hX3.trans hD.ext⟩
            case measure=>exact mZ
       ·
        have q1:((E.length:Int) !=3)=true:=by rw[bne_iff_ne];omega
        go_wp2_with fail
        go_roundw
        case rel=>exact⟨4,by go_num,by omega,by omega,hX3⟩
        case measure=>exact mZ
    ·
     clear n1 n5 hn4 hnI hn0
     go_wp2_with fail
     go_loopw [7,8] (fun x t wr'=>∃(y:Int) (k:Nat),x= .int .i64 y∧t= .int .i64 k∧1≤k∧k≤4∧0≤y∧y< bnd k∧wr'=wz) (fun _ t _=>downV 4 t)
     case atStart=>
      refine⟨_,1,rfl,rfl,by omega,by omega,?_,?_,rfl⟩
      all_goals (try rw[HM.out.1]);(try rw[HM.out.2.1]);(try rw[HM.out.2.2]);(try unfold bnd);(try simp only[if_true]);omega
     case round=>
      obtain⟨y,k,rfl,rfl,k1,kn,y0,yb,rfl⟩:=hrel
      have hk0:=nZ0 k
      have ybI:=bnd_le k
      have yb2:y< 2147483648:=by omega
      have yb3: -2147483648≤y:=by omega
      have yc:y*64≤9223372036854775000:=by omega
      by_cases hkn:k< 4
      ·
       have hkI:(k:Int)< 4:=by omega
       obtain⟨g',o',e',lg',_,ck⟩:=num_at hrep (at'+k) kA
       cases e'
       have hb1:=HL.out (at'+k) kA
       obtain⟨x1,hx1⟩:∃x,l[at'+k]=x:=⟨_,rfl⟩
       rw[hx1]at ck hb1
       obtain⟨x10,x11⟩:=hb1
       have hm:x1.tmod 64=x1 % 64:=Int.tmod_eq_emod_of_nonneg x10
       have hst:=bnd_step k y (x1 % 64) k1 kA yb kA
       clear hx1
       have HHM:=Lh (And.intro hm hst)
       clear hm hst
       go_wp2_with fail
       go_roundw
       case rel=>
        refine⟨_,k+1,rfl,by go_num,by omega,by omega,?_,?_⟩
        ·
         omega
        ·
         exact⟨HHM.out.2,trivial⟩
       case measure=>exact mZ
      ·
       have hkI:¬(k:Int)< 4:=by omega
       clear yc
       go_wp2_with fail
       refine(encode_some _ _ kA kA).mono ?_
       rintro e w3 ⟨⟨E,hE4,ev,rfl,hev⟩,hB3⟩
       obtain⟨ea,ec,rfl,_,_⟩:=hev.count (z_num .u8) kA
       have hX3:=hX.trans hB3
       by_cases hEn:E.length=4
       ·
        have q1:((E.length:Int) !=4)=false:=by rw[hEn];rfl
        go_wp2_with fail
        refine(char_any _ _).mono ?_
        rintro _ w4 ⟨⟨cb,rfl,_⟩,rfl⟩
        cases cb with
        | false=>
         go_wp2_with fail
         go_roundw
         case rel=>exact⟨5,by go_num,by omega,by omega,hX3⟩
         case measure=>exact mZ
        | true=>
         go_wp2_with fail
         go_loopw [10,11] (fun x t wr'=>∃(s:Bool) (j:Nat),x= .bool s∧t= .int .i64 j∧j≤4∧Dr w4 wr') (fun _ t _=>downV 4 t)
         case atStart=>exact⟨true,0,rfl,rfl,by omega,Dr.refl _⟩
         case round=>
          obtain⟨s,j,rfl,rfl,hj,hD⟩:=hrel
          have hj0:=nZ0 j
          by_cases hjn:j< 4
          ·
           have hjI:(j:Int)< 4:=by omega
           have hjE:(j:Int)< (E.length:Int):=by omega
           obtain⟨g2,o2,rfl,lg2,_,c2⟩:=num_at (hev.ext hD.ext) j kA
           obtain⟨g',o',e',lg',_,ck⟩:=num_at (hrep.ext (hB3.trans hD.ext)) (at'+j) kA
           cases e'
           cases s with
           | true=>
            go_wp2_with fail
            go_quiet (fail)
            go_wp2_with fail
            go_roundw
            case rel=>exact⟨_,j+1,rfl,by go_num,by omega,hD.drewN _⟩
            case measure=>exact mZ
           | false=>
            go_wp2_with fail
            go_quiet (fail)
            go_wp2_with fail
            go_roundw
            case rel=>exact⟨_,j+1,rfl,by go_num,by omega,hD.drewN _⟩
            case measure=>exact mZ
          ·
           have hjI:¬(j:Int)< 4:=by omega
           cases s with
           | true=>
            go_wp2_with fail
            go_ret2
            exact⟨⟨_,4,rfl,by omega⟩,hX3.trans hD.ext⟩
           | false=>
            go_wp2_with fail
            go_roundw
            case rel=>exact⟨5,by go_num,by omega,by omega,hX3.trans hD.ext⟩
            case measure=>exact mZ
       ·
        have q1:((E.length:Int) !=4)=true:=by rw[bne_iff_ne];omega
        go_wp2_with fail
        go_roundw
        case rel=>exact⟨5,by go_num,by omega,by omega,hX3⟩
        case measure=>exact mZ
   ·
    have hfI:¬(at':Int)+(n:Int)≤(l.length:Int):=by omega
    go_wp2_with fail
    go_ret2
    exact⟨⟨0,0,rfl,by omega⟩,hX⟩
  ·
   have hnI:¬(n:Int)≤4:=by omega
   go_wp2_with fail
   go_ret2
   exact⟨⟨0,0,rfl,by omega⟩,hX⟩
def insAt {α:Type} (l:List α) (n:Nat) (x:α):List α:=l.take n++x::l.drop n
theorem insAt_len {α:Type} (l:List α) (n:Nat) (x:α):(insAt l n x).length=l.length+1:=by
 unfold insAt
 rw[List.length_append,List.length_cons,List.length_take,List.length_drop];omega
def Src (w:World) (z:Nat) (v:Value) (m:Nat) (news:List Value):Prop:=
 (v= .slice none 0 0∧m=0∧news= [])∨∃ad c,v= .slice (some ad) m c∧news.length=m*z∧∀j u,news[j]? =some u→w.cell? (ad.add j)=some u
theorem add_offs' (b o j:Nat):(⟨b,o,none⟩:Addr).add j=⟨b,o+j,none⟩:=by unfold Addr.add;split<;> simp_all
theorem Src.cells {w:World} {z:Nat} {g o m c:Nat} {news:List Value} (hl:news.length=m*z) (h:∀j u,news[j]? =some u→w.cell? ⟨g,o+j,none⟩=some u):Src w z (.slice (some ⟨g,o,none⟩) m c) m news:=
 .inr ⟨_,c,rfl,hl,fun j u hj=>by rw[add_offs'];exact h j u hj⟩
theorem Src.block {w:World} {z:Nat} {g m c:Nat} {cs:Array Value} {e:TypeId} {fz:Nat×Nat} (h:w.heap[g]? =some (.cells cs e fz)) (hl:cs.size=m*z):Src w z (.slice (some ⟨g,0,none⟩) m c) m cs.toList:=
 .cells (by simpa using hl) (fun j u hj=>by rw[Nat.zero_add];simp at hj;simp[World.cell?,h,hj])
theorem Src.ext {w w':World} {z:Nat} {v:Value} {m:Nat} {news:List Value} (h:Src w z v m news) (hB:Ext w w'):Src w' z v m news:=by
 rcases h with h | ⟨ad,c,rfl,hl,hc⟩
 ·
  exact .inl h
 ·
  refine .inr ⟨ad,c,rfl,hl,fun j u hj=> ?_⟩
  have h1:=hc j u hj
  have hlt:=World.block_lt_of_cell? w _ h1
  exact(World.cell?_of_block (Below.block hB _ hlt)).trans h1
theorem src_take {P:Program} {w:World} {base z n:Nat} {e t:TypeId} {v:Value} {us:List Value} (hown:w.ownsRow base e z v n us) (ht:P.underlying t=some (.slice (P.elem t))) (hz:∀W,(sizeOf (P.elem t)).run P W= .ok z W) (k:Nat) (hk:k≤n):
  ∃sv,Src w z sv k (us.take (k*z))∧∀W,(Instr.sliceAt t v none (some (.int .i64 k)) none).run P W= .ok sv W:=by
 have hL:=hown.1
 have hmul:k*z≤n*z:=Nat.mul_le_mul_right _ hk
 rcases hown.2 with⟨rfl,rfl⟩ | ⟨g,cap,cur,rfl,hb,hg,hn,hm,hs,htk⟩
 ·
  obtain rfl:k=0:=by omega
  refine⟨.slice none 0 0,.inl ⟨rfl,rfl,by simp⟩,fun W=> ?_⟩
  rw[run_sliceAt_slice W t _ _ _ _ ht,run_slice_h W t none 0 0 ht .i64 _ kA kA,hz]
  simp[Result.andThen,sliced]
 ·
  refine⟨sliced (some ⟨g,0,none⟩) 0 ((k:Int).toNat) cap z,?_,fun W=> ?_⟩
  rotate_left
  ·
   rw[run_sliceAt_slice W t _ _ _ _ ht,run_slice_h W t _ n cap ht .i64 _ kA kA,hz]
   rfl
  ·
   unfold sliced
   have hcell:∀j u,(us.take (k*z))[j]? =some u→w.cell? ⟨g,0+j,none⟩=some u:=fun j u hj=>by
    rw[List.getElem?_take]at hj
    split at hj
    ·
     have:=hown.cells (g:=g) rfl j u hj
     rw[add_offs']at this;exact this
    ·
     cases hj
   have hlen:(us.take (k*z)).length=k*z:=by rw[List.length_take,hL];omega
   by_cases h0:cap=0
   ·
    rw[if_pos h0]
    simp only[Int.toNat_natCast,Nat.sub_zero]
    exact .cells hlen hcell
   ·
    rw[if_neg h0]
    simp only[Int.toNat_natCast,Nat.sub_zero,Option.map_some,add_offs',Nat.zero_mul]
    exact .cells hlen hcell
theorem src_drop {P:Program} {w:World} {base z n:Nat} {e t:TypeId} {v:Value} {us:List Value} (hown:w.ownsRow base e z v n us) (ht:P.underlying t=some (.slice (P.elem t))) (hz:∀W,(sizeOf (P.elem t)).run P W= .ok z W) (k:Nat) (hk:k≤n):
  ∃sv,Src w z sv (n - k) (us.drop (k*z))∧∀W,(Instr.sliceAt t v (some (.int .i64 k)) none none).run P W= .ok sv W:=by
 have hL:=hown.1
 have hmul:k*z≤n*z:=Nat.mul_le_mul_right _ hk
 have hsub:n*z - k*z=(n - k)*z:=(Nat.sub_mul n k z).symm
 have hlen:(us.drop (k*z)).length=(n - k)*z:=by rw[List.length_drop,hL,hsub]
 rcases hown.2 with⟨rfl,rfl⟩ | ⟨g,cap,cur,rfl,hb,hg,hn,hm,hs,htk⟩
 ·
  obtain rfl:k=0:=by omega
  refine⟨.slice none 0 0,.inl ⟨rfl,rfl,List.eq_nil_of_length_eq_zero (by rw[hlen];simp)⟩,fun W=> ?_⟩
  rw[run_sliceAt_slice W t _ _ _ _ ht,run_slice_l W t none 0 0 ht .i64 _ kA kA,hz]
  simp[Result.andThen,sliced]
 ·
  refine⟨sliced (some ⟨g,0,none⟩) ((k:Int).toNat) n cap z,?_,fun W=> ?_⟩
  rotate_left
  ·
   rw[run_sliceAt_slice W t _ _ _ _ ht,run_slice_l W t _ n cap ht .i64 _ kA kA,hz]
   rfl
  ·
   unfold sliced
   have hcell:∀j u,(us.drop (k*z))[j]? =some u→w.cell? ⟨g,0+k*z+j,none⟩=some u:=fun j u hj=>by
    rw[List.getElem?_drop]at hj
    have:=hown.cells (g:=g) rfl _ u hj
    rw[add_offs']at this
    rw[show 0+k*z+j=0+(k*z+j) by omega];exact this
   simp only[Int.toNat_natCast]
   by_cases h0:cap=k
   ·
    have h1:n=k:=by omega
    have hnil:us.drop (k*z)= []:=List.eq_nil_of_length_eq_zero (by rw[hlen,h1];simp)
    rw[if_pos h0,hnil]
    exact .cells (by rw[h1];simp) (fun j u hj=>by simp at hj)
   ·
    rw[if_neg h0]
    simp only[Option.map_some,add_offs']
    exact .cells hlen hcell
theorem exec_slice {P:Program} {ev:Operand→Value} {oi:Oper} {t:TypeId} {x:Operand} {lo hi mx:Option Operand} {sv:Value} {W:World} (ho:oi.op= .slice t x lo hi mx) (h:(Instr.sliceAt t (ev x) (lo.map ev) (hi.map ev) (mx.map ev)).run P W= .ok sv W):
  (execOp ev oi).run P W= .ok (.value sv) W:=by
 unfold execOp
 simp only[ho,Sem.run_bind,h,Result.andThen_ok,Sem.run_pure]
theorem grown_refl (w:World) (row:Option Nat):w.grownBy w row:=by
 have h:=World.grownBy_alloc w (.cells #[] 0) row
 exact⟨rfl,rfl,rfl,Nat.le_refl _,fun _ _ _=>rfl⟩
section
variable {P:Program} {ops:Array Oper} {Q:Exit→Act→World→Prop} {S:World→Prop} {fuel:Nat} {listed:Array Bool} {a:Act} {w:World} {K:Act→World→Prop}
theorem tk_src (i:Nat) (d:Option Tmp) {oi:Oper} (hi':ops[i]? =some oi) (hd:oi.dst=d) (hw:Region.wanted oi (yielded ops a.tmps)=true) (s x:Operand) (t:TypeId)
  (ho:oi.op= .call {callee:= .builtin .append,args:= #[s,x],argTypes:= #[t,t]})
  (base:Nat) (e:TypeId) (i0:TypeInfo) (z:Value) (size bytes:Nat) (ht:P.underlying t=some (.slice e)) (hi:P.info? e=some i0) (hz:i0.zero=some z)
  (hsize:i0.size=size) (hby:i0.bytes=bytes) (hzs:z.cells.size=size) (hsz:0< size)
  (v:Value) (n:Nat) (xs:List Value) (hs:a.eval s=v) (hown:w.ownsRow base e size v n xs)
  (sv:Value) (m:Nat) (news:List Value) (hx:a.eval x=sv) (hsrc:Src w size sv m news) (h1:∀u∈news,u.oneCell'=true)
  (h63:n+m≤maxLen) (hbytes:(n+m)*bytes≤140737488355328) (hbase:base≤w.heap.size)
  (h:∀v' w',w'.ownsRow base e size v' (n+m) (xs++news)→w.grownBy w' v.ownBlock→(v'.ownBlock=v.ownBlock∨v'.ownBlock=some w.heap.size)→K (a.put d v') w'):wpOp P ops Q i K a w:=by
 rcases hsrc with⟨rfl,rfl,rfl⟩ | ⟨ad,c,rfl,hl,hc⟩
 ·
  unfold wpOp
  simp only[hi',hw,if_true]
  refine Or.inl ?_
  have hrun:=run_append_owned_none (P:=P) (w:=w) base t oi.type e i0 size ht hi v n xs hown
  unfold Oper.wp execOp
  simp only[ho,resolve,invoke,builtin,Sem.run_bind,Sem.run_pure,Result.andThen_ok,List.map_toArray,List.map_cons,List.map_nil,hs,hx,hrun]
  rw[Oper.upon_value,hd]
  exact h _ _ (by simpa using hown) (grown_refl _ _) (.inl rfl)
 ·
  exact tk_app i d hi' hd hw s x t ho base e i0 z size bytes ht hi hz hsize hby hzs hsz v n xs hs hown ad m c news hx hl hc h1 h63 hbytes hbase h
end
theorem own_empty' {w:World} {base g z:Nat} {e:TypeId} (hb:base≤g) (h:w.heap[g]? =some (.cells #[] e (0,0))):w.ownsRow base e z (.slice (some ⟨g,0,none⟩) 0 0) 0 []:=
 ⟨by simp,.inr ⟨g,0,#[],rfl,hb,h,Nat.le_refl _,Nat.zero_le _,by simp,by simp⟩⟩
theorem rows_mono {w:World} {base base' z n:Nat} {e:TypeId} {v:Value} {us:List Value} (h:w.ownsRow base e z v n us) (hb:base'≤base):w.ownsRow base' e z v n us:=by
 refine⟨h.1,?_⟩
 rcases h.2 with h2 | ⟨g,cap,cur,rfl,hg,hr⟩
 ·
  exact .inl h2
 ·
  exact .inr ⟨g,cap,cur,rfl,Nat.le_trans hb hg,hr⟩
theorem Reps.take {w:World} {p:Nat→Prop} {us:List Value} {es:List DV} (h:Reps w p us es) (k:Nat):Reps w p (us.take k) (es.take k):=
 ⟨by rw[List.length_take,List.length_take,h.1],fun j u e hu he=>by
  rw[List.getElem?_take]at hu he
  split at hu
  ·
   rename_i hlt;rw[if_pos hlt]at he;exact h.2 _ _ _ hu he
  ·
   cases hu⟩
theorem Reps.drop {w:World} {p:Nat→Prop} {us:List Value} {es:List DV} (h:Reps w p us es) (k:Nat):Reps w p (us.drop k) (es.drop k):=
 ⟨by rw[List.length_drop,List.length_drop,h.1],fun j u e hu he=>by
  rw[List.getElem?_drop]at hu he;exact h.2 _ _ _ hu he⟩
theorem Own.ins {α:Type} {f:α→List DV} {z:Nat} (hz:∀x,(f x).length=z) (h0:0< z) {wz W:World} {p:Nat→Prop} {base k:Nat} {e:TypeId} {dv v:Value} {us xs:List Value} {L:List α} {x:α}
  (hreps:Reps wz (fun b=>p b∧some b≠dv.ownBlock∧b< wz.heap.size) us (L.flatMap f)) (hx:Reps wz (fun b=>p b∧b< wz.heap.size) xs (f x)) (hS:Ext wz W) (hk:k≤L.length)
  (hrow:W.ownsRow wz.heap.size e z v (k+1+(L.length - k)) (us.take (k*z)++xs++us.drop (k*z))) (hb:base≤wz.heap.size):
  Own W p base e z v (insAt L k x).length ((insAt L k x).flatMap f):=by
 refine⟨_,by rw[insAt_len,show L.length+1=k+1+(L.length - k) by omega];exact rows_mono hrow hb,?_⟩
 have hall:Reps wz (fun b=>p b∧b< wz.heap.size) (us.take (k*z)++xs++us.drop (k*z)) ((insAt L k x).flatMap f):=by
  unfold insAt
  rw[List.flatMap_append,List.flatMap_cons,←flat_take f z hz,←flat_drop f z hz,←List.append_assoc]
  exact(((hreps.take _).ok fun b hb=>⟨hb.1,hb.2.2⟩).append hx).append ((hreps.drop _).ok fun b hb=>⟨hb.1,hb.2.2⟩)
 refine(hall.ext hS).ok fun b hb=>⟨hb.1,?_,Nat.lt_of_lt_of_le hb.2 hS.size⟩
 intro e1
 rcases hrow.2 with⟨_,hn⟩ | ⟨g,cap,cur,rfl,hg,_⟩
 ·
  omega
 ·
  have:b=g:=Option.some.inj e1
  omega
def DV.one:DV→Bool
 | .v x=>x.oneCell'
 | .s _ _=>true
theorem Rep.one {w:World} {p:Nat→Prop} {u:Value} {e:DV} (h:Rep w p u e) (he:e.one=true):u.oneCell'=true:=by
 cases h with
 | leaf x hx=>exact he
 | nil z=>rfl
 | emp ad z=>rfl
 | row=>rfl
theorem Reps.one {w:World} {p:Nat→Prop} {us:List Value} {es:List DV} (h:Reps w p us es) (he:∀e∈es,e.one=true):∀u∈us,u.oneCell'=true:=by
 intro u hu
 obtain⟨k,hk,rfl⟩:=List.getElem_of_mem hu
 have hk':k< es.length:=by rw[←h.1];exact hk
 exact(h.2 k _ es[k] (List.getElem?_eq_getElem hk) (List.getElem?_eq_getElem hk')).one (he _ (List.getElem_mem hk'))
theorem flat_one {α:Type} {f:α→List DV} (hf:∀x,∀e∈f x,e.one=true) (l:List α):∀e∈l.flatMap f,e.one=true:=by
 intro e he
 obtain⟨x,_,hx⟩:=List.mem_flatMap.1 he
 exact hf x e hx
theorem one_attr (x:Attr):∀e∈attrC x,e.one=true:=by intro e he;simp[attrC]at he;rcases he with rfl | rfl<;> rfl
theorem one_step (x:Step):∀e∈stepC x,e.one=true:=by intro e he;simp[stepC,strsD]at he;rcases he with rfl | rfl<;> rfl
theorem one_node (x:Node):∀e∈nodeC x,e.one=true:=by intro e he;rw[nodeC_eq]at he;simp[attrsD,nodesD]at he;rcases he with rfl | rfl | rfl | rfl | rfl<;> rfl
def attrPos (a:Attr) (out:List Attr):Nat:=out.findIdx fun b=>lessB a.n b.n
def sortA:List Attr→List Attr→List Attr
 | out,[]=>out
 | out,a::r=>sortA (insAt out (attrPos a out) a) r
theorem attrPos_le (a:Attr) (out:List Attr):attrPos a out≤out.length:=List.findIdx_le_length
theorem findIdx_drop {α:Type} (q:α→Bool) (l:List α) (k:Nat) (h:k< l.length):(l.drop k).findIdx q=if q l[k]=true then 0 else(l.drop (k+1)).findIdx q+1:=by
 rw[drop_one l k h,List.findIdx_cons]
 cases q l[k]<;> simp
theorem infoAttr:(Tryz.prog.info? 68).map (fun i=>(i.zero,i.size,i.bytes))=some (some (.agg #[.string ⟨#[]⟩,.string ⟨#[]⟩]),2,32):=by kernel_rfl
end Go.Proofs.YtngmgjodcnknoaaGreatDoor
