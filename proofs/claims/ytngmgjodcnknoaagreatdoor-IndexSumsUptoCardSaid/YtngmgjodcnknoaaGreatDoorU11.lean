/-
 Laws drawn from elder texts. Helper lemmas;no statement of the seat is proved here.
-/
import Derived.Test.YtngmgjodcnknoaaGreatDoorU10
namespace Go.Proofs.YtngmgjodcnknoaaGreatDoor
open Go.RowKit
set_option maxHeartbeats 32000000
set_option maxRecDepth 100000
set_option linter.unusedVariables false
set_option linter.unusedSimpArgs false
theorem next2_any (p:Nat→Prop) (l:List Int) (hl:∀(i:Nat) (h:i< l.length),0≤l[i]∧l[i]< 256) (at':Nat) (hat:at'< l.length) (hll:l.length≤16777216) (v:Value) (w:World) (h:Rep w p v (numsD .u8 l)):
  Calls Tryz.prog 148 #[v,.int .i64 at'] w fun e w'=>RetRune2 l at' e∧Ext w w':=by
 obtain⟨a,c,rfl,hc1,hc2⟩:=h.count (z_num .u8) kA
 obtain⟨g,o,rfl,lg,_,c0⟩:=num_at h at' hat
 have HL:=Lh hl
 have hatI:¬(l.length:Int)≤(at':Int):=by omega
 have hatJ:(at':Int)< (l.length:Int):=by omega
 have hat0:¬(at':Int)< 0:=by omega
 have hb0:=hl at' hat
 obtain⟨x0,hx0⟩:∃x,l[at']=x:=⟨_,rfl⟩
 rw[hx0]at c0 hb0
 obtain⟨x00,x01⟩:=hb0
 clear hl hx0
 go_enter Tryz.func148,Tryz.ntmps148
 go_wp2_with fail
 go_loopw [6,7,8,9,10,11] (fun t _ _ _ _ _ wr=>∃n:Nat,t= .int .i64 n∧1≤n∧n≤5∧Ext w wr) (fun t _ _ _ _ _ _=>downV 5 t)
 case atStart=>exact⟨1,rfl,by omega,by omega,Ext.refl _⟩
 case round=>
  obtain⟨n,rfl,n1,n5,hX⟩:=hrel
  have cr:=hX.keep lg c0
  have lgr:g< wr.heap.size:=Nat.lt_of_lt_of_le lg hX.size
  by_cases hn4:n≤4
  ·
   have hnI:(n:Int)≤4:=by omega
   have hn0:=nZ0 n
   by_cases hfit:at'+n≤l.length
   ·
    have hfI:(at':Int)+(n:Int)≤(l.length:Int):=by omega
    have hrep:=h.ext hX
    have hm1:x0.tmod 32=x0 % 32:=Int.tmod_eq_emod_of_nonneg x00
    have hm2:x0.tmod 16=x0 % 16:=Int.tmod_eq_emod_of_nonneg x00
    have hm3:x0.tmod 8=x0 % 8:=Int.tmod_eq_emod_of_nonneg x00
    have HM:=Lh (And.intro hm1 (And.intro hm2 hm3))
    clear hm1 hm2 hm3
    obtain⟨wz,hwz⟩:∃wz,wz=wr:=⟨_,rfl⟩
    subst hwz
    have hn:n=1∨n=2∨n=3∨n=4:=by omega
    rcases hn with rfl | rfl | rfl | rfl
    ·
     clear n1 n5 hn4 hnI hn0
     go_wp2_with fail
     go_loopw [7,8] (fun x t wr'=>∃(y:Int) (k:Nat),x= .int .i64 y∧t= .int .i64 k∧1≤k∧k≤1∧0≤y∧y< bnd k∧wr'=wz) (fun _ t _=>downV 4 t)
     case atStart=>
      refine⟨_,1,rfl,rfl,by omega,by omega,?_,?_,rfl⟩
      all_goals (try rw[HM.out.1]);(try rw[HM.out.2.1]);(try rw[HM.out.2.2]);(try unfold bnd);(try simp only[if_true]);omega
     case round=>
      obtain⟨y,k,rfl,rfl,k1,kn,y0,yb,rfl⟩:=hrel
      have hk0:=nZ0 k
      have ybI:=bnd_le k
      have yb2:y< 2147483648:=by omega
      have yb3: -2147483648≤y:=by omega
      have yc:y*64≤9223372036854775000:=by omega
      by_cases hkn:k< 1
      ·
       have hkI:(k:Int)< 1:=by omega
       obtain⟨g',o',e',lg',_,ck⟩:=num_at hrep (at'+k) kA
       cases e'
       have hb1:=HL.out (at'+k) kA
       obtain⟨x1,hx1⟩:∃x,l[at'+k]=x:=⟨_,rfl⟩
       rw[hx1]at ck hb1
       obtain⟨x10,x11⟩:=hb1
       have hm:x1.tmod 64=x1 % 64:=Int.tmod_eq_emod_of_nonneg x10
       have hst:=bnd_step k y (x1 % 64) k1 kA yb kA
       clear hx1
       have HHM:=Lh (And.intro hm hst)
       clear hm hst
       go_wp2_with fail
       go_roundw
       case rel=>
        refine⟨_,k+1,rfl,by go_num,by omega,by omega,?_,?_⟩
        ·
         omega
        ·
         exact⟨HHM.out.2,trivial⟩
       case measure=>exact mZ
      ·
       have hkI:¬(k:Int)< 1:=by omega
       clear yc
       go_wp2_with fail
       refine(encode2_any _ _ kA kA).mono ?_
       rintro e w3 ⟨⟨E,hE4,hEP,ev,rfl,hev⟩,hB3⟩
       have HEP:=Lh hEP
       clear hEP
       obtain⟨ea,ec,rfl,_,_⟩:=hev.count (z_num .u8) kA
       have hX3:=hX.trans hB3
       by_cases hEn:E.length=1
       ·
        have q1:((E.length:Int) !=1)=false:=by rw[hEn];rfl
        go_wp2_with fail
        refine(char_any _ _).mono ?_
        rintro _ w4 ⟨⟨cb,rfl,_⟩,rfl⟩
        cases cb with
        | false=>
         go_wp2_with fail
         go_roundw
         case rel=>exact⟨2,by go_num,by omega,by omega,hX3⟩
         case measure=>exact mZ
        | true=>
         go_wp2_with fail
         go_loopw [10,11] (fun x t wr'=>∃(s:Bool) (j:Nat),x= .bool s∧t= .int .i64 j∧j≤1∧Dr w4 wr'∧Hid (s=true→∀q:Nat,q< j→E[q]? =l[at'+q]?)) (fun _ t _=>downV 4 t)
         case atStart=>exact⟨true,0,rfl,rfl,by omega,Dr.refl _,Lh (fun _ q hq=>absurd hq (Nat.not_lt_zero _))⟩
         case round=>
          obtain⟨s,j,rfl,rfl,hj,hD,HSE⟩:=hrel
          have hj0:=nZ0 j
          by_cases hjn:j< 1
          ·
           have hjI:(j:Int)< 1:=by omega
           have hjE:(j:Int)< (E.length:Int):=by omega
           obtain⟨g2,o2,rfl,lg2,_,c2⟩:=num_at (hev.ext hD.ext) j kA
           obtain⟨g',o',e',lg',_,ck⟩:=num_at (hrep.ext (hB3.trans hD.ext)) (at'+j) kA
           cases e'
           cases s with
           | true=>
            have HLT:=Lh (show j< E.length∧at'+j< l.length from⟨by omega,by omega⟩)
            go_wp2_with fail
            go_quiet (fail)
            go_wp2_with fail
            go_roundw
            case rel=>
             refine⟨_,j+1,rfl,by go_num,by omega,hD.drewN _,Lh (fun hs q hq=> ?_)⟩
             by_cases hqj:q< j
             ·
              exact HSE.out kK q hqj
             ·
              obtain rfl:q=j:=by omega
              rw[List.getElem?_eq_getElem HLT.out.1,List.getElem?_eq_getElem HLT.out.2]
              simpa using hs
            case measure=>exact mZ
           | false=>
            go_wp2_with fail
            go_quiet (fail)
            go_wp2_with fail
            go_roundw
            case rel=>exact⟨_,j+1,rfl,by go_num,by omega,hD.drewN _,Lh (fun h=>by first | cases h | simp at h)⟩
            case measure=>exact mZ
          ·
           have hjI:¬(j:Int)< 1:=by omega
           cases s with
           | true=>
            go_wp2_with fail
            go_ret2
            exact⟨⟨_,1,rfl,by omega,fun _=>⟨by have e:=HSE.out kK 0 kA;rw[(HEP.out.1 hEn).2.2]at e;simpa using e.symm,(HEP.out.1 hEn).2.1⟩,fun h=>absurd h kA⟩,hX3.trans hD.ext⟩
           | false=>
            go_wp2_with fail
            go_roundw
            case rel=>exact⟨2,by go_num,by omega,by omega,hX3.trans hD.ext⟩
            case measure=>exact mZ
       ·
        have q1:((E.length:Int) !=1)=true:=by rw[bne_iff_ne];omega
        go_wp2_with fail
        go_roundw
        case rel=>exact⟨2,by go_num,by omega,by omega,hX3⟩
        case measure=>exact mZ
    ·
     clear n1 n5 hn4 hnI hn0
     go_wp2_with fail
     go_loopw [7,8] (fun x t wr'=>∃(y:Int) (k:Nat),x= .int .i64 y∧t= .int .i64 k∧1≤k∧k≤2∧0≤y∧y< bnd k∧wr'=wz) (fun _ t _=>downV 4 t)
     case atStart=>
      refine⟨_,1,rfl,rfl,by omega,by omega,?_,?_,rfl⟩
      all_goals (try rw[HM.out.1]);(try rw[HM.out.2.1]);(try rw[HM.out.2.2]);(try unfold bnd);(try simp only[if_true]);omega
     case round=>
      obtain⟨y,k,rfl,rfl,k1,kn,y0,yb,rfl⟩:=hrel
      have hk0:=nZ0 k
      have ybI:=bnd_le k
      have yb2:y< 2147483648:=by omega
      have yb3: -2147483648≤y:=by omega
      have yc:y*64≤9223372036854775000:=by omega
      by_cases hkn:k< 2
      ·
       have hkI:(k:Int)< 2:=by omega
       obtain⟨g',o',e',lg',_,ck⟩:=num_at hrep (at'+k) kA
       cases e'
       have hb1:=HL.out (at'+k) kA
       obtain⟨x1,hx1⟩:∃x,l[at'+k]=x:=⟨_,rfl⟩
       rw[hx1]at ck hb1
       obtain⟨x10,x11⟩:=hb1
       have hm:x1.tmod 64=x1 % 64:=Int.tmod_eq_emod_of_nonneg x10
       have hst:=bnd_step k y (x1 % 64) k1 kA yb kA
       clear hx1
       have HHM:=Lh (And.intro hm hst)
       clear hm hst
       go_wp2_with fail
       go_roundw
       case rel=>
        refine⟨_,k+1,rfl,by go_num,by omega,by omega,?_,?_⟩
        ·
         omega
        ·
         exact⟨HHM.out.2,trivial⟩
       case measure=>exact mZ
      ·
       have hkI:¬(k:Int)< 2:=by omega
       clear yc
       go_wp2_with fail
       refine(encode2_any _ _ kA kA).mono ?_
       rintro e w3 ⟨⟨E,hE4,hEP,ev,rfl,hev⟩,hB3⟩
       have HEP:=Lh hEP
       clear hEP
       obtain⟨ea,ec,rfl,_,_⟩:=hev.count (z_num .u8) kA
       have hX3:=hX.trans hB3
       by_cases hEn:E.length=2
       ·
        have q1:((E.length:Int) !=2)=false:=by rw[hEn];rfl
        go_wp2_with fail
        refine(char_any _ _).mono ?_
        rintro _ w4 ⟨⟨cb,rfl,_⟩,rfl⟩
        cases cb with
        | false=>
         go_wp2_with fail
         go_roundw
         case rel=>exact⟨3,by go_num,by omega,by omega,hX3⟩
         case measure=>exact mZ
        | true=>
         go_wp2_with fail
         go_loopw [10,11] (fun x t wr'=>∃(s:Bool) (j:Nat),x= .bool s∧t= .int .i64 j∧j≤2∧Dr w4 wr'∧Hid (s=true→∀q:Nat,q< j→E[q]? =l[at'+q]?)) (fun _ t _=>downV 4 t)
         case atStart=>exact⟨true,0,rfl,rfl,by omega,Dr.refl _,Lh (fun _ q hq=>absurd hq (Nat.not_lt_zero _))⟩
         case round=>
          obtain⟨s,j,rfl,rfl,hj,hD,HSE⟩:=hrel
          have hj0:=nZ0 j
          by_cases hjn:j< 2
          ·
           have hjI:(j:Int)< 2:=by omega
           have hjE:(j:Int)< (E.length:Int):=by omega
           obtain⟨g2,o2,rfl,lg2,_,c2⟩:=num_at (hev.ext hD.ext) j kA
           obtain⟨g',o',e',lg',_,ck⟩:=num_at (hrep.ext (hB3.trans hD.ext)) (at'+j) kA
           cases e'
           cases s with
           | true=>
            have HLT:=Lh (show j< E.length∧at'+j< l.length from⟨by omega,by omega⟩)
            go_wp2_with fail
            go_quiet (fail)
            go_wp2_with fail
            go_roundw
            case rel=>
             refine⟨_,j+1,rfl,by go_num,by omega,hD.drewN _,Lh (fun hs q hq=> ?_)⟩
             by_cases hqj:q< j
             ·
              exact HSE.out kK q hqj
             ·
              obtain rfl:q=j:=by omega
              rw[List.getElem?_eq_getElem HLT.out.1,List.getElem?_eq_getElem HLT.out.2]
              simpa using hs
            case measure=>exact mZ
           | false=>
            go_wp2_with fail
            go_quiet (fail)
            go_wp2_with fail
            go_roundw
            case rel=>exact⟨_,j+1,rfl,by go_num,by omega,hD.drewN _,Lh (fun h=>by first | cases h | simp at h)⟩
            case measure=>exact mZ
          ·
           have hjI:¬(j:Int)< 2:=by omega
           cases s with
           | true=>
            go_wp2_with fail
            go_ret2
            exact⟨⟨_,2,rfl,by omega,fun h=>absurd h kA,fun _ q hq c hc=>HEP.out.2 kA c (List.mem_of_getElem? ((HSE.out kK q kA).trans hc))⟩,hX3.trans hD.ext⟩
           | false=>
            go_wp2_with fail
            go_roundw
            case rel=>exact⟨3,by go_num,by omega,by omega,hX3.trans hD.ext⟩
            case measure=>exact mZ
       ·
        have q1:((E.length:Int) !=2)=true:=by rw[bne_iff_ne];omega
        go_wp2_with fail
        go_roundw
        case rel=>exact⟨3,by go_num,by omega,by omega,hX3⟩
        case measure=>exact mZ
    ·
     clear n1 n5 hn4 hnI hn0
     go_wp2_with fail
     go_loopw [7,8] (fun x t wr'=>∃(y:Int) (k:Nat),x= .int .i64 y∧t= .int .i64 k∧1≤k∧k≤3∧0≤y∧y< bnd k∧wr'=wz) (fun _ t _=>downV 4 t)
     case atStart=>
      refine⟨_,1,rfl,rfl,by omega,by omega,?_,?_,rfl⟩
      all_goals (try rw[HM.out.1]);(try rw[HM.out.2.1]);(try rw[HM.out.2.2]);(try unfold bnd);(try simp only[if_true]);omega
     case round=>
      obtain⟨y,k,rfl,rfl,k1,kn,y0,yb,rfl⟩:=hrel
      have hk0:=nZ0 k
      have ybI:=bnd_le k
      have yb2:y< 2147483648:=by omega
      have yb3: -2147483648≤y:=by omega
      have yc:y*64≤9223372036854775000:=by omega
      by_cases hkn:k< 3
      ·
       have hkI:(k:Int)< 3:=by omega
       obtain⟨g',o',e',lg',_,ck⟩:=num_at hrep (at'+k) kA
       cases e'
       have hb1:=HL.out (at'+k) kA
       obtain⟨x1,hx1⟩:∃x,l[at'+k]=x:=⟨_,rfl⟩
       rw[hx1]at ck hb1
       obtain⟨x10,x11⟩:=hb1
       have hm:x1.tmod 64=x1 % 64:=Int.tmod_eq_emod_of_nonneg x10
       have hst:=bnd_step k y (x1 % 64) k1 kA yb kA
       clear hx1
       have HHM:=Lh (And.intro hm hst)
       clear hm hst
       go_wp2_with fail
       go_roundw
       case rel=>
        refine⟨_,k+1,rfl,by go_num,by omega,by omega,?_,?_⟩
        ·
         omega
        ·
         exact⟨HHM.out.2,trivial⟩
       case measure=>exact mZ
      ·
       have hkI:¬(k:Int)< 3:=by omega
       clear yc
       go_wp2_with fail
       refine(encode2_any _ _ kA kA).mono ?_
       rintro e w3 ⟨⟨E,hE4,hEP,ev,rfl,hev⟩,hB3⟩
       have HEP:=Lh hEP
       clear hEP
       obtain⟨ea,ec,rfl,_,_⟩:=hev.count (z_num .u8) kA
       have hX3:=hX.trans hB3
       by_cases hEn:E.length=3
       ·
        have q1:((E.length:Int) !=3)=false:=by rw[hEn];rfl
        go_wp2_with fail
        refine(char_any _ _).mono ?_
        rintro _ w4 ⟨⟨cb,rfl,_⟩,rfl⟩
        cases cb with
        | false=>
         go_wp2_with fail
         go_roundw
         case rel=>exact⟨4,by go_num,by omega,by omega,hX3⟩
         case measure=>exact mZ
        | true=>
         go_wp2_with fail
         go_loopw [10,11] (fun x t wr'=>∃(s:Bool) (j:Nat),x= .bool s∧t= .int .i64 j∧j≤3∧Dr w4 wr'∧Hid (s=true→∀q:Nat,q< j→E[q]? =l[at'+q]?)) (fun _ t _=>downV 4 t)
         case atStart=>exact⟨true,0,rfl,rfl,by omega,Dr.refl _,Lh (fun _ q hq=>absurd hq (Nat.not_lt_zero _))⟩
         case round=>
          obtain⟨s,j,rfl,rfl,hj,hD,HSE⟩:=hrel
          have hj0:=nZ0 j
          by_cases hjn:j< 3
          ·
           have hjI:(j:Int)< 3:=by omega
           have hjE:(j:Int)< (E.length:Int):=by omega
           obtain⟨g2,o2,rfl,lg2,_,c2⟩:=num_at (hev.ext hD.ext) j kA
           obtain⟨g',o',e',lg',_,ck⟩:=num_at (hrep.ext (hB3.trans hD.ext)) (at'+j) kA
           cases e'
           cases s with
           | true=>
            have HLT:=Lh (show j< E.length∧at'+j< l.length from⟨by omega,by omega⟩)
            go_wp2_with fail
            go_quiet (fail)
            go_wp2_with fail
            go_roundw
            case rel=>
             refine⟨_,j+1,rfl,by go_num,by omega,hD.drewN _,Lh (fun hs q hq=> ?_)⟩
             by_cases hqj:q< j
             ·
              exact HSE.out kK q hqj
             ·
              obtain rfl:q=j:=by omega
              rw[List.getElem?_eq_getElem HLT.out.1,List.getElem?_eq_getElem HLT.out.2]
              simpa using hs
            case measure=>exact mZ
           | false=>
            go_wp2_with fail
            go_quiet (fail)
            go_wp2_with fail
            go_roundw
            case rel=>exact⟨_,j+1,rfl,by go_num,by omega,hD.drewN _,Lh (fun h=>by first | cases h | simp at h)⟩
            case measure=>exact mZ
          ·
           have hjI:¬(j:Int)< 3:=by omega
           cases s with
           | true=>
            go_wp2_with fail
            go_ret2
            exact⟨⟨_,3,rfl,by omega,fun h=>absurd h kA,fun _ q hq c hc=>HEP.out.2 kA c (List.mem_of_getElem? ((HSE.out kK q kA).trans hc))⟩,hX3.trans hD.ext⟩
           | false=>
            go_wp2_with fail
            go_roundw
            case rel=>exact⟨4,by go_num,by omega,by omega,hX3.trans hD.ext⟩
            case measure=>exact mZ
       ·
        have q1:((E.length:Int) !=3)=true:=by rw[bne_iff_ne];omega
        go_wp2_with fail
        go_roundw
        case rel=>exact⟨4,by go_num,by omega,by omega,hX3⟩
        case measure=>exact mZ
    ·
     clear n1 n5 hn4 hnI hn0
     go_wp2_with fail
     go_loopw [7,8] (fun x t wr'=>∃(y:Int) (k:Nat),x= .int .i64 y∧t= .int .i64 k∧1≤k∧k≤4∧0≤y∧y< bnd k∧wr'=wz) (fun _ t _=>downV 4 t)
     case atStart=>
      refine⟨_,1,rfl,rfl,by omega,by omega,?_,?_,rfl⟩
      all_goals (try rw[HM.out.1]);(try rw[HM.out.2.1]);(try rw[HM.out.2.2]);(try unfold bnd);(try simp only[if_true]);omega
     case round=>
      obtain⟨y,k,rfl,rfl,k1,kn,y0,yb,rfl⟩:=hrel
      have hk0:=nZ0 k
      have ybI:=bnd_le k
      have yb2:y< 2147483648:=by omega
      have yb3: -2147483648≤y:=by omega
      have yc:y*64≤9223372036854775000:=by omega
      by_cases hkn:k< 4
      ·
       have hkI:(k:Int)< 4:=by omega
       obtain⟨g',o',e',lg',_,ck⟩:=num_at hrep (at'+k) kA
       cases e'
       have hb1:=HL.out (at'+k) kA
       obtain⟨x1,hx1⟩:∃x,l[at'+k]=x:=⟨_,rfl⟩
       rw[hx1]at ck hb1
       obtain⟨x10,x11⟩:=hb1
       have hm:x1.tmod 64=x1 % 64:=Int.tmod_eq_emod_of_nonneg x10
       have hst:=bnd_step k y (x1 % 64) k1 kA yb kA
       clear hx1
       have HHM:=Lh (And.intro hm hst)
       clear hm hst
       go_wp2_with fail
       go_roundw
       case rel=>
        refine⟨_,k+1,rfl,by go_num,by omega,by omega,?_,?_⟩
        ·
         omega
        ·
         exact⟨HHM.out.2,trivial⟩
       case measure=>exact mZ
      ·
       have hkI:¬(k:Int)< 4:=by omega
       clear yc
       go_wp2_with fail
       refine(encode2_any _ _ kA kA).mono ?_
       rintro e w3 ⟨⟨E,hE4,hEP,ev,rfl,hev⟩,hB3⟩
       have HEP:=Lh hEP
       clear hEP
       obtain⟨ea,ec,rfl,_,_⟩:=hev.count (z_num .u8) kA
       have hX3:=hX.trans hB3
       by_cases hEn:E.length=4
       ·
        have q1:((E.length:Int) !=4)=false:=by rw[hEn];rfl
        go_wp2_with fail
        refine(char_any _ _).mono ?_
        rintro _ w4 ⟨⟨cb,rfl,_⟩,rfl⟩
        cases cb with
        | false=>
         go_wp2_with fail
         go_roundw
         case rel=>exact⟨5,by go_num,by omega,by omega,hX3⟩
         case measure=>exact mZ
        | true=>
         go_wp2_with fail
         go_loopw [10,11] (fun x t wr'=>∃(s:Bool) (j:Nat),x= .bool s∧t= .int .i64 j∧j≤4∧Dr w4 wr'∧Hid (s=true→∀q:Nat,q< j→E[q]? =l[at'+q]?)) (fun _ t _=>downV 4 t)
         case atStart=>exact⟨true,0,rfl,rfl,by omega,Dr.refl _,Lh (fun _ q hq=>absurd hq (Nat.not_lt_zero _))⟩
         case round=>
          obtain⟨s,j,rfl,rfl,hj,hD,HSE⟩:=hrel
          have hj0:=nZ0 j
          by_cases hjn:j< 4
          ·
           have hjI:(j:Int)< 4:=by omega
           have hjE:(j:Int)< (E.length:Int):=by omega
           obtain⟨g2,o2,rfl,lg2,_,c2⟩:=num_at (hev.ext hD.ext) j kA
           obtain⟨g',o',e',lg',_,ck⟩:=num_at (hrep.ext (hB3.trans hD.ext)) (at'+j) kA
           cases e'
           cases s with
           | true=>
            have HLT:=Lh (show j< E.length∧at'+j< l.length from⟨by omega,by omega⟩)
            go_wp2_with fail
            go_quiet (fail)
            go_wp2_with fail
            go_roundw
            case rel=>
             refine⟨_,j+1,rfl,by go_num,by omega,hD.drewN _,Lh (fun hs q hq=> ?_)⟩
             by_cases hqj:q< j
             ·
              exact HSE.out kK q hqj
             ·
              obtain rfl:q=j:=by omega
              rw[List.getElem?_eq_getElem HLT.out.1,List.getElem?_eq_getElem HLT.out.2]
              simpa using hs
            case measure=>exact mZ
           | false=>
            go_wp2_with fail
            go_quiet (fail)
            go_wp2_with fail
            go_roundw
            case rel=>exact⟨_,j+1,rfl,by go_num,by omega,hD.drewN _,Lh (fun h=>by first | cases h | simp at h)⟩
            case measure=>exact mZ
          ·
           have hjI:¬(j:Int)< 4:=by omega
           cases s with
           | true=>
            go_wp2_with fail
            go_ret2
            exact⟨⟨_,4,rfl,by omega,fun h=>absurd h kA,fun _ q hq c hc=>HEP.out.2 kA c (List.mem_of_getElem? ((HSE.out kK q kA).trans hc))⟩,hX3.trans hD.ext⟩
           | false=>
            go_wp2_with fail
            go_roundw
            case rel=>exact⟨5,by go_num,by omega,by omega,hX3.trans hD.ext⟩
            case measure=>exact mZ
       ·
        have q1:((E.length:Int) !=4)=true:=by rw[bne_iff_ne];omega
        go_wp2_with fail
        go_roundw
        case rel=>exact⟨5,by go_num,by omega,by omega,hX3⟩
        case measure=>exact mZ
   ·
    have hfI:¬(at':Int)+(n:Int)≤(l.length:Int):=by omega
    go_wp2_with fail
    go_ret2
    exact⟨⟨0,0,rfl,by omega,fun h=>absurd h kA,fun h=>absurd h kA⟩,hX⟩
  ·
   have hnI:¬(n:Int)≤4:=by omega
   go_wp2_with fail
   go_ret2
   exact⟨⟨0,0,rfl,by omega,fun h=>absurd h kA,fun h=>absurd h kA⟩,hX⟩
def RunA (l L:List Int) (i:Nat):Prop:=(∀(q:Nat),q< i→∀c:Int,l[q]? =some c→c< 128→c∈L)∧(0< i→∀c:Int,l[0]? =some c→c< 128→L.head? =some c)
theorem runA_step {l L:List Int} {i m:Nat} {r:Int} (hL:L.length≤i) (hm:m≠0) (h1:m=1→l[i]? =some r∧r< 128) (h2:2≤m→∀q:Nat,q< m→∀c:Int,l[i+q]? =some c→128≤c) (H:RunA l L i):RunA l (L++ [r]) (i+m):=by
 refine⟨fun q hq c hc h128=> ?_,fun _ c hc h128=> ?_⟩
 ·
  by_cases hqi:q< i
  ·
   exact List.mem_append_left _ (H.1 q hqi c hc h128)
  ·
   by_cases hm1:m=1
   ·
    obtain rfl:q=i:=by omega
    rw[(h1 hm1).1]at hc
    cases hc
    simp
   ·
    have:=h2 kA (q - i) kA c (by rw[show i+(q - i)=q by omega];exact hc)
    omega
 ·
  by_cases hi:0< i
  ·
   have:=H.2 hi c hc h128
   cases L with
   | nil=>cases this
   | cons a t=>exact this
  ·
   obtain rfl:i=0:=by omega
   have hL0:L= []:=List.eq_nil_of_length_eq_zero kA
   subst hL0
   by_cases hm1:m=1
   ·
    rw[(h1 hm1).1]at hc
    cases hc
    rfl
   ·
    have:=h2 kA 0 kA c (by rw[Nat.add_zero];exact hc)
    omega
def RetRunes2 (l:List Int) (n:Nat) (p:Nat→Prop) (e:Ending) (w':World):Prop:=∃(v:Value) (b:Bool) (L:List Int),e= .returned (.tuple #[v,.bool b])∧Rep w' p v (numsD .i32 L)∧L.length≤n∧(b=true→RunA l L l.length)
theorem runes2_any (s:Bytes) (hs:s.length≤1048576) (w:World):
  Calls Tryz.prog 144 #[.string (bs s)] w fun e w'=>RetRunes2 (byI s) s.length (fun b=>w.heap.size≤b) e w'∧Ext w w':=by
 obtain⟨bv,w1,hcv,hE1,hbv⟩:=conv_bytes w s kA
 obtain⟨a,c,rfl,hc1,hc2⟩:=hbv.count (z_num .u8) kA
 have hlen:=byI_len s
 have hby:=byI_at s
 obtain⟨l,hl⟩:∃l,byI s=l:=⟨_,rfl⟩
 rw[hl]at hcv hbv hc1 hlen hby⊢
 have HBY:=Lh hby
 have hll:l.length≤1048576:=by omega
 have HLEN:=Lh hlen
 obtain⟨i0,hi,hz0,hz1,hz2⟩:=info_parts infoRune
 clear hby hl hlen
 go_enter Tryz.func144,Tryz.ntmps144
 go_wp2_with fail
 clear hcv
 go_loopw [5,6,7,8] (fun o t _ _ wr=>∃(i:Nat) (L:List Int) (dv:Value),t= .int .i64 i∧dv=o∧i≤l.length∧L.length≤i∧Own wr (fun _=>False) w1.heap.size 21 1 dv L.length (L.flatMap fun c=> [.v (.int .i32 c)])∧Ext w1 wr∧Hid (RunA l L i)) (fun _ t _ _ _=>downV l.length t)
 case atStart=>exact⟨0,[],_,rfl,rfl,Nat.zero_le _,Nat.le_refl _,Own.nil _ _ _ _ _,Ext.refl _,Lh ⟨fun q hq=>absurd hq (Nat.not_lt_zero _),fun h=>absurd h (Nat.not_lt_zero _)⟩⟩
 case round=>
  obtain⟨i,L,dv,rfl,rfl,hi2,hL,hown,hX,HRA⟩:=hrel
  have hi0:=nZ0 i
  have hwz:=hX.size
  by_cases hlt:i< l.length
  ·
   have hlI:(i:Int)< (l.length:Int):=by omega
   have HC:=Lh fun W (hE:Ext wr W)=>next2_any _ l HBY.out i hlt kA _ W ((hbv.ext hX).ext hE)
   go_wp2_with fail
   refine(HC.out _ (Ext.refl _)).mono ?_
   rintro e w3 ⟨⟨r,m,rfl,hm,hm1,hm2⟩,hB3⟩
   have HM12:=Lh (And.intro hm1 hm2)
   clear hm1 hm2
   by_cases hm0:m=0
   ·
    subst hm0
    go_wp2_with fail
    go_ret2
    exact⟨⟨_,false,[],rfl,.nil 1,by simp,fun h=>by cases h⟩,hE1.trans (hX.trans hB3)⟩
   ·
    have q1:((m:Int)==0)=false:=by rw[beq_eq_false_iff_ne];omega
    have hown3:=hown.ext hB3
    have hX3:=hX.trans hB3
    have hsz3:=hB3.size
    clear hown
    obtain⟨us,hrow,hreps⟩:=hown3.rows
    go_wp2_with (at_builtin;refine wpList_append_own_at _ rfl (.tmp 23) (.tmp 25) _ rfl w1.heap.size 21 i0 (.int .i32 0) 1 4 Tryz.underlying213 hi hz0 hz1 hz2 rfl kD dv L.length us rfl (hrow.alloc _) ⟨w3.heap.size,0,none⟩ 1 1 [.int .i32 r] rfl rfl new_one kE kC kA kM ?_;intro v2 w4 hown4 hgrow4 _ hat4)
    have hX4:Ext w1 w4:=hX3.grown_own hrow hgrow4
    have hO4:Own w4 (fun _=>False) w1.heap.size 21 1 v2 (L++ [r]).length ((L++ [r]).flatMap fun c=> [.v (.int .i32 c)]):=by
     rw[List.length_append,List.flatMap_append]
     exact Own.push ((hreps.ext ((Ext.refl w3).alloc _)).ok fun b hb=>⟨hb.1,hb.2.1,by simp;omega⟩) (Reps.cons (Rep.int _ _ _ _) (Reps.nil _ _)) hown4 hgrow4 hat4
    clear hown4 hgrow4 hrow hreps hown3 hat4
    go_wp2_with fail
    go_roundw
    case rel=>exact⟨i+m,L++ [r],v2,by go_num,rfl,by omega,by rw[List.length_append];simp;omega,hO4,hX4,Lh (runA_step hL hm0 HM12.out.1 HM12.out.2 HRA.out)⟩
    case measure=>exact mZ
  ·
   have hlI:¬(i:Int)< (l.length:Int):=by omega
   go_wp2_with fail
   go_ret2
   exact⟨⟨_,true,L,rfl,hown.rep.ok (fun b hb=>by have:=hE1.size;rcases hb with h | h;exact h.elim;omega),by have:=HLEN.out;omega,fun _=>by rw[show l.length=i by omega];exact HRA.out⟩,hE1.trans hX⟩
def NameP (s:Bytes):Prop:=(∀c∈s,c.toNat< 128→goC c.toNat)∧∀c,s.head? =some c→c.toNat< 128→begC c.toNat
theorem byI_get (s:Bytes) (q:Nat) (hq:q< s.length):(byI s)[q]? =some (s[q].toNat:Int):=by
 unfold byI
 simp[hq,bs]
theorem name_law {s:Bytes} {L:List Int} (H:RunA (byI s) L (byI s).length) (hg:∀c∈L,goC c) {h:0< L.length} (hb:begC L[0]) (h0:¬L.length=0):NameP s:=by
 refine⟨fun c hc h128=> ?_,fun c hc h128=> ?_⟩
 ·
  obtain⟨q,hq,rfl⟩:=List.getElem_of_mem hc
  exact hg _ (H.1 q (by rw[byI_len];exact hq) _ (byI_get s q hq) kA)
 ·
  cases s with
  | nil=>cases hc
  | cons a t=>
   cases hc
   have:=H.2 (by rw[byI_len];simp) _ (byI_get (c::t) 0 kI) (by simp only[List.getElem_cons_zero];omega)
   rw[List.head?_eq_getElem?,List.getElem?_eq_getElem kA]at this
   have e:=Option.some.inj this
   rw[e]at hb
   exact hb
theorem name2_any (s:Bytes) (hs:s.length≤1048576) (w:World):
  Calls Tryz.prog 105 #[.string (bs s)] w fun e w'=>SomeB (fun b=>b=true→s≠ []∧NameP s) e∧Ext w w':=by
 have HC:=Lh fun W=>runes2_any s hs W
 go_enter Tryz.func105,Tryz.ntmps105
 go_wp2_with fail
 refine(HC.out _).mono ?_
 rintro e w1 ⟨⟨v,b,L,rfl,hv,hL,hRA⟩,hB1⟩
 have HRA:=Lh hRA
 clear hRA
 obtain⟨a,c,rfl,hc1,hc2⟩:=hv.count (z_num .i32) kA
 cases b with
 | false=>
  go_wp2_with fail
  go_ret
  exact⟨⟨_,rfl,fun h=>by cases h⟩,hB1⟩
 | true=>
  by_cases h0:L.length=0
  ·
   have q0:((L.length:Int)==0)=true:=by rw[h0];rfl
   go_wp2_with fail
   go_ret
   exact⟨⟨_,rfl,fun h=>by cases h⟩,hB1⟩
  ·
   have q0:((L.length:Int)==0)=false:=by rw[beq_eq_false_iff_ne];omega
   have hp:(0:Int)< (L.length:Int):=by omega
   have hne:Hid (s≠ []):=Lh (by intro e;rw[e]at hL;simp at hL;exact h0 (by rw[hL];rfl))
   obtain⟨g,o,rfl,lg,_,c0⟩:=num_at hv 0 kA
   obtain⟨x0,hx0⟩:∃x,L[0]=x:=⟨_,rfl⟩
   rw[hx0,Nat.add_zero]at c0
   have HX0:=Lh hx0
   clear hx0
   go_wp2_with fail
   refine(begins2_any _ _).mono ?_
   rintro _ w2 ⟨⟨b,rfl,qb⟩,rfl⟩
   have QB:=Lh qb
   clear qb
   cases b with
   | false=>
    go_wp2_with fail
    go_ret
    exact⟨⟨_,rfl,fun h=>by cases h⟩,hB1⟩
   | true=>
    go_wp2_with fail
    go_loopw [5] (fun t wr=>∃i:Nat,t= .int .i64 i∧i≤L.length∧wr=w2∧Hid (∀(j:Nat) (c:Int),j< i→L[j]? =some c→goC c)) (fun t _=>downV L.length t)
    case atStart=>exact⟨0,rfl,Nat.zero_le _,rfl,Lh fun j c hj=>absurd hj (Nat.not_lt_zero _)⟩
    case round=>
     obtain⟨i,rfl,hi,rfl,HGO⟩:=hrel
     have hi0:=nZ0 i
     by_cases hlt:i< L.length
     ·
      have hlI:(i:Int)< (L.length:Int):=by omega
      obtain⟨g',o',e',lg',_,ci⟩:=num_at hv i hlt
      cases e'
      obtain⟨x,hx⟩:∃x,L[i]=x:=⟨_,rfl⟩
      rw[hx]at ci
      have HXi:=Lh hx
      clear hx
      go_wp2_with fail
      refine(goeson2_any _ _).mono ?_
      rintro _ w3 ⟨⟨b,rfl,qg⟩,rfl⟩
      have QG:=Lh qg
      clear qg
      cases b with
      | false=>
       go_wp2_with fail
       go_ret
       exact⟨⟨_,rfl,fun h=>by cases h⟩,hB1⟩
      | true=>
       go_wp2_with fail
       go_roundw
       case rel=>
        refine⟨i+1,by go_num,by omega,trivial,Lh fun j c hj hc=> ?_⟩
        by_cases hji:j< i
        ·
         exact HGO.out j c hji hc
        ·
         obtain rfl:j=i:=by omega
         rw[List.getElem?_eq_getElem hlt,HXi.out]at hc
         cases hc
         exact QG.out kK
       case measure=>exact mZ
     ·
      have hlI:¬(i:Int)< (L.length:Int):=by omega
      go_wp2_with fail
      go_ret
      exact⟨⟨_,rfl,fun _=>⟨hne.out,name_law (HRA.out kK) (fun c hc=>by
       obtain⟨j,hj,rfl⟩:=List.getElem_of_mem hc
       exact HGO.out j _ kA (List.getElem?_eq_getElem hj)) (by rw[HX0.out];exact QB.out kK) h0⟩⟩,hB1⟩
theorem cntA_len:∀l:List Attr,l.length≤cntA l
 | []=>Nat.le_refl _
 | a::r=>by have:=cntA_len r;rw[cntA,List.length_cons];omega
def NamesP (nm:Bytes) (la:List Attr):Prop:=(nm≠ []∧NameP nm)∧(∀a∈la,a.n≠ []∧NameP a.n)∧(la.map (·.n)).Nodup
def AttrsP (tx nm:Bytes) (la:List Attr) (i:Nat):Prop:=tx= []∧(nm≠ []∧NameP nm)∧∀(j:Nat) (h:j< la.length),j< i→(la[j].n≠ []∧NameP la[j].n)∧∀(m:Nat) (hm:m< la.length),m< j→la[m].n≠la[j].n
def AttrsQ (tx nm:Bytes) (la:List Attr) (i j:Nat):Prop:=AttrsP tx nm la i∧∀h:i< la.length,(la[i].n≠ []∧NameP la[i].n)∧∀(m:Nat) (hm:m< la.length),m< j→la[m].n≠la[i].n
theorem attrs_zero {tx nm:Bytes} {la:List Attr} (h:tx= []) (h2:nm≠ []∧NameP nm):AttrsP tx nm la 0:=⟨h,h2,fun j _ hj=>absurd hj (Nat.not_lt_zero _)⟩
theorem attrs_in {tx nm:Bytes} {la:List Attr} {i:Nat} {x:Attr} (h:AttrsP tx nm la i) (hx:∀h:i< la.length,la[i]=x) (h2:x.n≠ []∧NameP x.n):AttrsQ tx nm la i 0:=⟨h,fun hl=>⟨by rw[hx hl];exact h2,fun m _ hm=>absurd hm (Nat.not_lt_zero _)⟩⟩
theorem attrs_step {tx nm:Bytes} {la:List Attr} {i j:Nat} (h:AttrsQ tx nm la i j) (hj:j< la.length) (hne:∀h:i< la.length,la[j].n≠la[i].n):AttrsQ tx nm la i (j+1):=⟨h.1,fun hl=>⟨(h.2 hl).1,fun m hm hmj=>by
 by_cases e:m=j
 ·
  subst e;exact hne hl
 ·
  exact(h.2 hl).2 m hm kA⟩⟩
theorem attrs_next {tx nm:Bytes} {la:List Attr} {i j:Nat} (h:AttrsQ tx nm la i j) (hj:i≤j):AttrsP tx nm la (i+1):=⟨h.1.1,h.1.2.1,fun k hk hki=>by
 by_cases e:k=i
 ·
  subst e;exact⟨(h.2 hk).1,fun m hm hmk=>(h.2 hk).2 m hm kA⟩
 ·
  exact h.1.2.2 k hk kA⟩
theorem attrs_all {tx nm:Bytes} {la:List Attr} (h:AttrsP tx nm la la.length):NamesP nm la:=by
 refine⟨h.2.1,fun a ha=> ?_,?_⟩
 ·
  obtain⟨j,hj,rfl⟩:=List.getElem_of_mem ha
  exact(h.2.2 j hj hj).1
 ·
  rw[List.Nodup,List.pairwise_map,List.pairwise_iff_getElem]
  intro i j hi hj hij
  exact(h.2.2 j hj hj).2 i hi hij
mutual
noncomputable def fairN:Node→Bool
 | .mk k nm tx la ks=>(if k=1 then decide (tx= []) && @decide (NamesP nm la) (Classical.propDecidable _)else decide (la= []) && decide (ks= [])) && (decide (1≤k∧k≤4) && fairL ks)
noncomputable def fairL:List Node→Bool
 | []=>true
 | k::r=>fairN k && fairL r
end
theorem fairL_of:∀ks:List Node,(∀(j:Nat) (h:j< ks.length),fairN ks[j]=true)→fairL ks=true
 | [],_=>by rw[fairL]
 | k::r,h=>by
  rw[fairL,show fairN k=true from h 0 kI,fairL_of r fun j hj=>h (j+1) (by simpa using hj)];rfl
end Go.Proofs.YtngmgjodcnknoaaGreatDoor
