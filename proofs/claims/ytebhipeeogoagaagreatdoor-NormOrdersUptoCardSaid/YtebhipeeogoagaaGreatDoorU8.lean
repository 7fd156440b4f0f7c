/-
 slices:attributes are exchanged,rotated. Helper lemmas;no statement of the seat is proved here.
-/
import Derived.Test.YtebhipeeogoagaaGreatDoorU7
import Derived.Test.YtebhipeeogoagaaGreatDoorU4
import Derived.Shelf.SlSortCmp.KitK
import Derived.Lib.Bytealg
import Derived.Deep.LoopGhost
import Derived.Sort.WalkA6
import Derived.Sort.WalkB2
import Derived.Sort.WalkB12
import Derived.Deep.DeepCutAuto
namespace Go.Proofs.YtebhipeeogoagaaGreatDoor
open Go.RowKit Go.Sort Go.Lib
set_option maxHeartbeats 32000000
set_option maxRecDepth 100000
set_option linter.unusedVariables false
set_option linter.unusedSimpArgs false
theorem cmp_lt:∀a b:Bytes,decide (Lib.compareBytes a b< 0)=lessB a b
 | [],[]=>rfl
 | [],_::_=>rfl
 | _::_,[]=>rfl
 | a::x,b::y=>by
  rw[Lib.compareBytes,lessB]
  by_cases h:a=b
  ·
   subst h
   rw[if_neg (UInt8.lt_irrefl a),if_neg (UInt8.lt_irrefl a),if_pos rfl];exact cmp_lt x y
  ·
   rw[if_neg h]
   by_cases h1:a< b
   ·
    rw[if_pos h1,decide_eq_true (show a.toNat< b.toNat from h1)];rfl
   ·
    have h2:b< a:=by
     have h3:¬a.toNat< b.toNat:=h1
     have h4:a.toNat≠b.toNat:=fun e=>h (UInt8.toNat_inj.1 e)
     show b.toNat< a.toNat;omega
    rw[if_neg h1,if_pos h2,decide_eq_false (show¬a.toNat< b.toNat from h1)];rfl
theorem cmp_zero:∀a b:Bytes,Lib.compareBytes a b=0↔a=b
 | [],[]=>by simp[Lib.compareBytes]
 | [],_::_=>by simp[Lib.compareBytes]
 | _::_,[]=>by simp[Lib.compareBytes]
 | a::x,b::y=>by
  rw[Lib.compareBytes,List.cons.injEq]
  by_cases h:a=b
  ·
   subst h
   rw[if_neg (UInt8.lt_irrefl a),if_neg (UInt8.lt_irrefl a),cmp_zero x y];simp
  ·
   have:¬(a=b∧x=y):=fun e=>h e.1
   by_cases h1:a< b
   ·
    rw[if_pos h1];simp[h]
   ·
    have h2:b< a:=by
     have h3:¬a.toNat< b.toNat:=h1
     have h4:a.toNat≠b.toNat:=fun e=>h (UInt8.toNat_inj.1 e)
     show b.toNat< a.toNat;omega
    rw[if_neg h1,if_pos h2];simp[h]
instance attrInh:Inhabited Attr:=⟨⟨[],[]⟩⟩
def encA (a:Attr):List Value:= [.string (bs a.n),.string (bs a.v)]
def cfA (a b:Attr):Int:=Lib.compareBytes a.n b.n
open Go.Sort in
theorem ltA_eq (x y:Attr):ltOf cfA x y=lessB x.n y.n:=cmp_lt x.n y.n
open Go.Sort in
theorem swoA:SWO (ltOf cfA):=by
 refine⟨fun x=>by rw[ltA_eq];exact lessB_irrefl _,fun x y z h1 h2=> ?_,fun x y z h1 h2=> ?_⟩
 ·
  rw[ltA_eq]at h1 h2⊢;exact lessB_trans _ _ _ h1 h2
 ·
  rw[ltA_eq]at h1 h2⊢
  cases h3:lessB x.n z.n with
  | false=>rfl
  | true=>
   by_cases hxy:x.n=y.n
   ·
    rw[hxy,h2]at h3;cases h3
   ·
    have h4:=lessB_total _ _ hxy h1
    rw[lessB_trans _ _ _ h4 h3]at h2;cases h2
theorem _root_.Go.Proofs.SWK.c {dk d0:Array Attr} {w0 W:World} {blk off:Nat} (h:SWK encA 2 w0 blk off dk W) (R:RowK encA 2 w0 blk off d0) (hs:dk.size=d0.size) (i:Nat) (hi:i< dk.size):
  W.cell? ⟨blk,off+i*2,none⟩=some (.string (bs dk[i]!.n))∧W.cell? ⟨blk,off+i*2+1,none⟩=some (.string (bs dk[i]!.v))∧W.frozen? ⟨blk,off+i*2,none⟩=false∧W.frozen? ⟨blk,off+i*2+1,none⟩=false:=by
 have H:=h.holds R.hblk R.hH hs
 have h0:=HoldsK.cell H hi (show 0< 2 by decide)
 have h1:=HoldsK.cell H hi (show 1< 2 by decide)
 exact⟨h0.1,h1.1,h0.2,h1.2⟩
theorem swapR_any (d0 d:Array Attr) (w0 w:World) (blk off cap:Nat) (R:RowK encA 2 w0 blk off d0) (hs:d0.size=d.size) (S:SWK encA 2 w0 blk off d w) (hsz:d.size≤16777216) (f:Value) (a b n:Nat) (h1:a+n≤b) (h2:b+n≤d.size):
  Calls Tryz.prog 224 #[.slice (some ⟨blk,off,none⟩) d.size cap,.int .i64 a,.int .i64 b,.int .i64 n,f] w fun e w'=>e= .returned (.tuple #[])∧SWK encA 2 w0 blk off (swR d a b n) w':=by
 have mixed:Tryz.prog.follows Departure.mixedOrders=true:=by kernel_rfl
 have S0:Aside _:=S
 clear S
 go_enter Tryz.func224,Tryz.ntmps224
 go_wp2_with fail
 go_loopg [10] n (fun gg t wr=>∃k:Nat,t= .int .i64 k∧k≤n∧n - k≤gg∧Aside (SWK encA 2 w0 blk off (swR d a b k) wr))
 case atStart=>exact⟨0,rfl,Nat.zero_le _,Nat.le_refl _,S0⟩
 case round=>
  clear S0
  obtain⟨k,rfl,hk,hg,S1⟩:=hrel
  by_cases hlt:k< n
  ·
   have hltI:(k:Int)< (n:Int):=by omega
   have hsk:(swR d a b k).size=d.size:=swR_size d a b k
   have HN:Hid (swp (swR d a b k) (a+k) (b+k)=swR d a b (k+1)):=Lh rfl
   obtain⟨dk,hdk⟩:∃dk,swR d a b k=dk:=⟨_,rfl⟩
   rw[hdk]at S1 hsk HN
   clear hdk
   have eqi:((a:Int)+(k:Int)).toNat=a+k:=by omega
   have pqi:(0:Int)≤(a:Int)+(k:Int):=by omega
   have bqi:(a:Int)+(k:Int)< (d.size:Int):=by omega
   have eqj:((b:Int)+(k:Int)).toNat=b+k:=by omega
   have pqj:(0:Int)≤(b:Int)+(k:Int):=by omega
   have bqj:(b:Int)+(k:Int)< (d.size:Int):=by omega
   have S1q:Aside (SWK encA 2 w0 blk off (swp dk (a+k) (b+k)) ((((wr.setCell ⟨blk,off+(a+k)*2,none⟩ (.string (bs dk[b+k]!.n))).setCell ⟨blk,off+(a+k)*2+1,none⟩ (.string (bs dk[b+k]!.v))).setCell ⟨blk,off+(b+k)*2,none⟩ (.string (bs dk[a+k]!.n))).setCell ⟨blk,off+(b+k)*2+1,none⟩ (.string (bs dk[a+k]!.v))).drew):=S1.out.swapped R (a+k) (b+k) (by omega) (by omega)
   obtain⟨cq0,cq1,fq0,fq1⟩:=S1.out.c R (by omega) (a+k) (by omega)
   obtain⟨cq2,cq3,fq2,fq3⟩:=S1.out.c R (by omega) (b+k) (by omega)
   generalize dk[a+k]! =xIq at S1q cq0 cq1
   generalize dk[b+k]! =xJq at S1q cq2 cq3
   obtain⟨oiq,hoiq⟩:∃o,off+(a+k)*2=o:=⟨_,rfl⟩
   obtain⟨ojq,hojq⟩:∃o,off+(b+k)*2=o:=⟨_,rfl⟩
   have neqa:¬oiq=ojq:=by omega
   have neqb:¬oiq=ojq+1:=by omega
   have neqc:¬oiq+1=ojq:=by omega
   have neqd:¬oiq=oiq+1:=by omega
   have neqe:¬ojq=ojq+1:=by omega
   rw[hoiq,hojq]at S1q
   rw[hoiq]at cq0 cq1 fq0 fq1
   rw[hojq]at cq2 cq3 fq2 fq3
   clear S1
   go_wp2_with fail
   go_big_region_o
   clear cq0 cq1 cq2 cq3 fq0 fq1 fq2 fq3 neqa neqb neqc neqd neqe hoiq hojq
   generalize ((((wr.setCell ⟨blk,oiq,none⟩ (.string (bs xJq.n))).setCell ⟨blk,oiq+1,none⟩ (.string (bs xJq.v))).setCell ⟨blk,ojq,none⟩ (.string (bs xIq.n))).setCell ⟨blk,ojq+1,none⟩ (.string (bs xIq.v))).drew=wq at S1q⊢
   go_wp2_with fail
   go_roundg (n - (k+1))
   case measure=>omega
   case rel=>exact⟨k+1,by go_num,by omega,Nat.le_refl _,by rw[←HN.out];exact S1q⟩
  ·
   have hltI:¬(k:Int)< (n:Int):=by omega
   obtain rfl:k=n:=by omega
   go_wp2_with fail
   refine bodyPost_end (results_none rfl _ _ _) rfl ?_
   exact⟨rfl,S1.out⟩
theorem rotate_any (d0 d:Array Attr) (w0 w:World) (blk off cap:Nat) (R:RowK encA 2 w0 blk off d0) (hs:d0.size=d.size) (S:SWK encA 2 w0 blk off d w) (hsz:d.size≤16777216) (f:Value) (a m b:Nat) (h1:a< m) (h2:m< b) (h3:b≤d.size):
  Calls Tryz.prog 204 #[.slice (some ⟨blk,off,none⟩) d.size cap,.int .i64 a,.int .i64 m,.int .i64 b,f] w fun e w'=>e= .returned (.tuple #[])∧∃d',Rot d a m b d'∧SWK encA 2 w0 blk off d' w':=by
 have S0:Aside _:=S
 clear S
 have H0:Hid (∀d',Rot d (m - (m - a)) m (m+(b - m)) d'→Rot d a m b d'):=Lh fun d' h=>by rwa [show m - (m - a)=a by omega,show m+(b - m)=b by omega]at h
 have z1:(m:Int) - (a:Int)=((m - a:Nat):Int):=by omega
 have z2:(b:Int) - (m:Int)=((b - m:Nat):Int):=by omega
 go_enter Tryz.func204,Tryz.ntmps204
 go_wp2_with fail
 go_loopg [10,11] (b - a) (fun gg vi vj wr=>∃(i j:Nat) (dk:Array Attr),vi= .int .i64 i∧vj= .int .i64 j∧1≤i∧1≤j∧i≤m∧m+j≤d.size∧i+j≤gg+1∧dk.size=d.size∧Aside (SWK encA 2 w0 blk off dk wr)∧Hid (∀d',Rot dk (m - i) m (m+j) d'→Rot d a m b d'))
 case atStart=>exact⟨m - a,b - m,d,by go_num,by go_num,by omega,by omega,by omega,by omega,by omega,rfl,S0,H0⟩
 case round=>
  clear S0 H0 z1 z2
  obtain⟨i,j,dk,rfl,rfl,hi1,hj1,him,hjs,hg,hsk,S1,HI⟩:=hrel
  obtain⟨p,hp⟩:∃p,m - i=p:=⟨_,rfl⟩
  have zp:(m:Int) - (i:Int)=(p:Int):=by omega
  by_cases he:i=j
  ·
   subst he
   have q0:((i:Int)==(i:Int))=true:=beq_self_eq_true _
   have HC:=Lh (swapR_any d0 dk w0 wr blk off cap R (by omega) S1.out (by omega) f p m i (by omega) (by omega))
   rw[hsk]at HC
   go_wp2_with fail
   refine HC.out.mono ?_
   rintro e w2 ⟨rfl,S2⟩
   go_wp2_with fail
   refine bodyPost_end (results_none rfl _ _ _) rfl ?_
   exact⟨rfl,_,HI.out _ (by rw[hp];have:=rot_eq (d:=dk) him (by omega);rwa [hp]at this),S2⟩
  ·
   have q0:((i:Int)==(j:Int))=false:=by rw[beq_eq_false_iff_ne];omega
   by_cases hij:j< i
   ·
    have hijI:(j:Int)< (i:Int):=by omega
    have HC:=Lh (swapR_any d0 dk w0 wr blk off cap R (by omega) S1.out (by omega) f p m j (by omega) (by omega))
    rw[hsk]at HC
    have zn:(i:Int) - (j:Int)=((i - j:Nat):Int):=by omega
    go_wp2_with fail
    refine HC.out.mono ?_
    rintro e w2 ⟨rfl,S2⟩
    go_wp2_with fail
    go_roundg (i+j - j - 1)
    case measure=>omega
    case rel=>exact⟨i - j,j,_,by go_num,rfl,by omega,hj1,by omega,hjs,by omega,(swR_size _ _ _ _).trans hsk,Lh S2,Lh fun d' h=>HI.out d' (rot_up hij him (by omega) (by rw[hp];rwa [show m - (i - j)=p+j by omega]at h))⟩
   ·
    have hijI:¬(j:Int)< (i:Int):=by omega
    have HC:=Lh (swapR_any d0 dk w0 wr blk off cap R (by omega) S1.out (by omega) f p (m+j - i) i (by omega) (by omega))
    rw[hsk]at HC
    have zq:(m:Int)+(j:Int) - (i:Int)=((m+j - i:Nat):Int):=by omega
    have zn:(j:Int) - (i:Int)=((j - i:Nat):Int):=by omega
    go_wp2_with fail
    refine HC.out.mono ?_
    rintro e w2 ⟨rfl,S2⟩
    go_wp2_with fail
    go_roundg (i+j - i - 1)
    case measure=>omega
    case rel=>exact⟨i,j - i,_,rfl,by go_num,hi1,by omega,him,by omega,by omega,(swR_size _ _ _ _).trans hsk,Lh S2,Lh fun d' h=>HI.out d' (rot_down (by omega) him (by omega) (by rw[hp]at h⊢;exact h))⟩
theorem lt_mono {d:Array Attr} {lo hi i j:Nat} {z:Attr} (h:SortedIn (ltOf cfA) lo hi d) (h1:lo≤i) (h2:i≤j) (h3:j< hi) (k:ltOf cfA d[j]! z=true):ltOf cfA d[i]! z=true:=by
 cases e:ltOf cfA d[i]! z with
 | true=>rfl
 | false=>have:=swoA.ntrans _ _ _ (srt_le swoA h h1 h2 h3) e;rw[k]at this;cases this
theorem lt_mono' {d:Array Attr} {lo hi i j:Nat} {z:Attr} (h:SortedIn (ltOf cfA) lo hi d) (h1:lo≤i) (h2:i≤j) (h3:j< hi) (k:ltOf cfA z d[i]! =true):ltOf cfA z d[j]! =true:=by
 cases e:ltOf cfA z d[j]! with
 | true=>rfl
 | false=>have:=swoA.ntrans _ _ _ e (srt_le swoA h h1 h2 h3);rw[k]at this;cases this
theorem merge1_any (HC0:True) (d0 d:Array Attr) (w0 w:World) (blk off cap:Nat) (R:RowK encA 2 w0 blk off d0) (hs:d0.size=d.size) (S:SWK encA 2 w0 blk off d w) (hsz:d.size≤16777216) (hC:CmpLays Tryz.prog 80 #[] encA 2 cfA blk off d0.size w0) (a m b:Nat) (h1:m=a+1) (h2:m< b) (h3:b≤d.size) (k2:SortedIn (ltOf cfA) m b d):
  Calls Tryz.prog 166 #[.slice (some ⟨blk,off,none⟩) d.size cap,.int .i64 a,.int .i64 m,.int .i64 b,.func (.func 80) #[] #[]] w fun e w'=>e= .returned (.tuple #[])∧∃d',PermIn a b d d'∧SortedIn (ltOf cfA) a b d'∧SWK encA 2 w0 blk off d' w':=by
 have mixed:Tryz.prog.follows Departure.mixedOrders=true:=by kernel_rfl
 have eg:∀args w,(callFunc 80 args).run Tryz.prog w= .ok (.enter 80 args) w:=enters_of Tryz.func80 (by kernel_rfl) rfl
 have HC:Aside _:=hC
 have S0:Aside _:=S
 have K2:=Lh k2
 have q1:((m:Int) - (a:Int)==1)=true:=by rw[beq_iff_eq];omega
 have ham:a< m:=by omega
 have H1:=Lh h1
 clear S hC k2 h1
 go_enter Tryz.func166,Tryz.ntmps166
 go_wp2_with fail
 go_loopg [10,11] (b) (fun gg vi vj wr=>∃i j:Nat,vi= .int .i64 i∧vj= .int .i64 j∧m≤i∧i≤j∧j≤b∧j - i≤gg∧Aside (SWK encA 2 w0 blk off d wr)∧Aside ((∀x,m≤x→x< i→ltOf cfA d[x]! d[a]! =true)∧(∀x,j≤x→x< b→ltOf cfA d[x]! d[a]! =false)))
 case atStart=>exact⟨m,b,by go_num,by go_num,Nat.le_refl _,by omega,Nat.le_refl _,by omega,S0,Lh ⟨fun x k1 k2=>by omega,fun x k1 k2=>by omega⟩⟩
 case round=>
  clear S0
  obtain⟨i,j,rfl,rfl,hi,hij,hj,hg,S1,HI⟩:=hrel
  by_cases hlt:i< j
  ·
   have hltI:(i:Int)< (j:Int):=by omega
   obtain⟨H,hH⟩:∃H,(i+j) / 2=H:=⟨_,rfl⟩
   have hHz:((i:Int)+(j:Int)) / 2=(H:Int):=by omega
   have hHi:i≤H∧H< j:=by omega
   cases hlt1:ltOf cfA d[H]! d[a]! with
   | true=>
    have e1i:((H:Int)).toNat=H:=by omega
    have p1i:(0:Int)≤(H:Int):=by omega
    have b1i:(H:Int)< (d.size:Int):=by omega
    have e1j:((a:Int)).toNat=a:=by omega
    have p1j:(0:Int)≤(a:Int):=by omega
    have b1j:(a:Int)< (d.size:Int):=by omega
    obtain⟨x1,hx1⟩:∃x,x=d[H]! :=⟨_,rfl⟩
    obtain⟨y1,hy1⟩:∃x,x=d[a]! :=⟨_,rfl⟩
    have l1a:=fun n os=>((S1.out.grown n os).c R (by omega) (H) (by omega)).1
    have l1b:=fun n os=>((S1.out.grown n os).c R (by omega) (H) (by omega)).2.1
    have l1c:=fun n os=>((S1.out.grown n os).c R (by omega) (a) (by omega)).1
    have l1d:=fun n os=>((S1.out.grown n os).c R (by omega) (a) (by omega)).2.1
    rw[←hx1]at l1a l1b
    rw[←hy1]at l1c l1d
    have hc1:∀n os,Calls Tryz.prog 80 #[.agg #[.string (bs x1.n),.string (bs x1.v)],.agg #[.string (bs y1.n),.string (bs y1.v)]] (grow (wr.drewN n) os) fun e w'=>e= .returned (.int .i64 (cfA x1 y1))∧∃q os',w'=grow ((grow (wr.drewN n) os).drewN q) os':=fun n os=>S1.out.cmp HC.out (by omega) x1 y1 n os
    have hv1:cfA x1 y1< 0:=by rw[hx1,hy1];exact of_decide_eq_true hlt1
    have hd1:decide (cfA x1 y1< 0)=true:=by simp[hv1]
    generalize cfA x1 y1=cv1 at hc1 hv1 hd1
    clear hx1 hy1
    go_wp2_with fail
    go_quiet_grown (first | (go_at_fn 80;refine Calls.grown_of (hc1 _ _)))
    have S1t:Aside (SWK encA 2 w0 blk off d (grow (wr.drewN nq) osq)):=S1.out.grown nq osq
    clear l1a l1b l1c l1d hc1 S1
    generalize grow (wr.drewN nq) osq=w1 at S1t⊢
    clear nq osq
    go_wp2_with fail
    go_roundg (j - (H+1))
    case measure=>omega
    case rel=>exact⟨H+1,j,by go_num,rfl,by omega,by omega,hj,Nat.le_refl _,S1t,Lh ⟨fun x k1 k2=>lt_mono K2.out k1 (show x≤H by omega) (by omega) hlt1,HI.out.2⟩⟩
   | false=>
    have e1i:((H:Int)).toNat=H:=by omega
    have p1i:(0:Int)≤(H:Int):=by omega
    have b1i:(H:Int)< (d.size:Int):=by omega
    have e1j:((a:Int)).toNat=a:=by omega
    have p1j:(0:Int)≤(a:Int):=by omega
    have b1j:(a:Int)< (d.size:Int):=by omega
    obtain⟨x1,hx1⟩:∃x,x=d[H]! :=⟨_,rfl⟩
    obtain⟨y1,hy1⟩:∃x,x=d[a]! :=⟨_,rfl⟩
    have l1a:=fun n os=>((S1.out.grown n os).c R (by omega) (H) (by omega)).1
    have l1b:=fun n os=>((S1.out.grown n os).c R (by omega) (H) (by omega)).2.1
    have l1c:=fun n os=>((S1.out.grown n os).c R (by omega) (a) (by omega)).1
    have l1d:=fun n os=>((S1.out.grown n os).c R (by omega) (a) (by omega)).2.1
    rw[←hx1]at l1a l1b
    rw[←hy1]at l1c l1d
    have hc1:∀n os,Calls Tryz.prog 80 #[.agg #[.string (bs x1.n),.string (bs x1.v)],.agg #[.string (bs y1.n),.string (bs y1.v)]] (grow (wr.drewN n) os) fun e w'=>e= .returned (.int .i64 (cfA x1 y1))∧∃q os',w'=grow ((grow (wr.drewN n) os).drewN q) os':=fun n os=>S1.out.cmp HC.out (by omega) x1 y1 n os
    have hv1:¬cfA x1 y1< 0:=by rw[hx1,hy1];exact of_decide_eq_false hlt1
    have hd1:decide (cfA x1 y1< 0)=false:=by simp[hv1]
    generalize cfA x1 y1=cv1 at hc1 hv1 hd1
    clear hx1 hy1
    go_wp2_with fail
    go_quiet_grown (first | (go_at_fn 80;refine Calls.grown_of (hc1 _ _)))
    have S1t:Aside (SWK encA 2 w0 blk off d (grow (wr.drewN nq) osq)):=S1.out.grown nq osq
    clear l1a l1b l1c l1d hc1 S1
    generalize grow (wr.drewN nq) osq=w1 at S1t⊢
    clear nq osq
    go_wp2_with fail
    go_roundg (H - i)
    case measure=>omega
    case rel=>exact⟨i,H,rfl,by go_num,hi,by omega,by omega,Nat.le_refl _,S1t,Lh ⟨HI.out.1,fun x k1 k2=>swoA.ntrans _ _ _ (srt_le swoA K2.out (by omega) k1 k2) hlt1⟩⟩
  ·
   have hltI:¬(i:Int)< (j:Int):=by omega
   obtain rfl:i=j:=by omega
   have MG:=Lh (merge_left (i:=i) swoA (show SortedIn (ltOf cfA) (a+1) b d by rw[←H1.out];exact K2.out) (by omega) hj h3 (fun x e1 e2=>HI.out.1 x (by have:=H1.out;omega) e2) (fun x e1 e2=>HI.out.2 x e1 e2))
   go_wp2_with fail
   go_loopg [13] b (fun gg vk wr=>∃k:Nat,vk= .int .i64 (a+k:Nat)∧k≤i - 1 - a∧i - 1 - a - k≤gg∧Aside (SWK encA 2 w0 blk off (upR d a k) wr))
   case atStart=>exact⟨0,by go_num,Nat.zero_le _,by omega,S1⟩
   case round=>
    clear S1
    obtain⟨k,rfl,hk,hgk,S2⟩:=hrel
    by_cases hlk:k< i - 1 - a
    ·
     have hlkI:((a+k:Nat):Int)< (i:Int) - 1:=by omega
     have hsk:(upR d a k).size=d.size:=upR_size d a k
     have HN:Hid (swp (upR d a k) (a+k) (a+k+1)=upR d a (k+1)):=Lh rfl
     obtain⟨dk,hdk⟩:∃dk,upR d a k=dk:=⟨_,rfl⟩
     rw[hdk]at S2 hsk HN
     obtain⟨I,hI⟩:∃I,a+k=I:=⟨_,rfl⟩
     rw[hI]at HN hlkI⊢
     clear hdk
     have hIb:I+1< d.size:=by omega
     have eqi:((I:Int)).toNat=I:=by omega
     have pqi:(0:Int)≤(I:Int):=by omega
     have bqi:(I:Int)< (d.size:Int):=by omega
     have eqj:((I:Int)+1).toNat=I+1:=by omega
     have pqj:(0:Int)≤(I:Int)+1:=by omega
     have bqj:(I:Int)+1< (d.size:Int):=by omega
     have S2q:Aside (SWK encA 2 w0 blk off (swp dk (I) (I+1)) ((((wr.setCell ⟨blk,off+(I)*2,none⟩ (.string (bs dk[I+1]!.n))).setCell ⟨blk,off+(I)*2+1,none⟩ (.string (bs dk[I+1]!.v))).setCell ⟨blk,off+(I+1)*2,none⟩ (.string (bs dk[I]!.n))).setCell ⟨blk,off+(I+1)*2+1,none⟩ (.string (bs dk[I]!.v))).drew):=S2.out.swapped R (I) (I+1) (by omega) (by omega)
     obtain⟨cq0,cq1,fq0,fq1⟩:=S2.out.c R (by omega) (I) (by omega)
     obtain⟨cq2,cq3,fq2,fq3⟩:=S2.out.c R (by omega) (I+1) (by omega)
     generalize dk[I]! =xIq at S2q cq0 cq1
     generalize dk[I+1]! =xJq at S2q cq2 cq3
     obtain⟨oiq,hoiq⟩:∃o,off+(I)*2=o:=⟨_,rfl⟩
     obtain⟨ojq,hojq⟩:∃o,off+(I+1)*2=o:=⟨_,rfl⟩
     have neqa:¬oiq=ojq:=by omega
     have neqb:¬oiq=ojq+1:=by omega
     have neqc:¬oiq+1=ojq:=by omega
     have neqd:¬oiq=oiq+1:=by omega
     have neqe:¬ojq=ojq+1:=by omega
     rw[hoiq,hojq]at S2q
     rw[hoiq]at cq0 cq1 fq0 fq1
     rw[hojq]at cq2 cq3 fq2 fq3
     clear S2
     go_wp2_with fail
     go_big_region_o
     clear cq0 cq1 cq2 cq3 fq0 fq1 fq2 fq3 neqa neqb neqc neqd neqe hoiq hojq
     generalize ((((wr.setCell ⟨blk,oiq,none⟩ (.string (bs xJq.n))).setCell ⟨blk,oiq+1,none⟩ (.string (bs xJq.v))).setCell ⟨blk,ojq,none⟩ (.string (bs xIq.n))).setCell ⟨blk,ojq+1,none⟩ (.string (bs xIq.v))).drew=wq at S2q⊢
     go_wp2_with fail
     go_roundg (i - 1 - a - (k+1))
     case measure=>omega
     case rel=>exact⟨k+1,by rw[←hI];go_num,by omega,Nat.le_refl _,by rw[←HN.out];exact S2q⟩
    ·
     have hlkI:¬((a+k:Nat):Int)< (i:Int) - 1:=by omega
     obtain rfl:k=i - 1 - a:=by omega
     go_wp2_with fail
     (try simp only[Exit.inBlock,Exit.then])
     refine bodyPost_ret (results_none rfl _ _ _) rfl ?_
     exact⟨rfl,_,(MG.out).1,(MG.out).2,S2.out⟩
theorem merge2_any (d0 d:Array Attr) (w0 w:World) (blk off cap:Nat) (R:RowK encA 2 w0 blk off d0) (hs:d0.size=d.size) (S:SWK encA 2 w0 blk off d w) (hsz:d.size≤16777216) (hC:CmpLays Tryz.prog 80 #[] encA 2 cfA blk off d0.size w0) (a m b:Nat) (h0:¬m=a+1) (h1:a< m) (h2:b=m+1) (h3:b≤d.size) (k1:SortedIn (ltOf cfA) a m d):
  Calls Tryz.prog 166 #[.slice (some ⟨blk,off,none⟩) d.size cap,.int .i64 a,.int .i64 m,.int .i64 b,.func (.func 80) #[] #[]] w fun e w'=>e= .returned (.tuple #[])∧∃d',PermIn a b d d'∧SortedIn (ltOf cfA) a b d'∧SWK encA 2 w0 blk off d' w':=by
 have mixed:Tryz.prog.follows Departure.mixedOrders=true:=by kernel_rfl
 have eg:∀args w,(callFunc 80 args).run Tryz.prog w= .ok (.enter 80 args) w:=enters_of Tryz.func80 (by kernel_rfl) rfl
 have HC:Aside _:=hC
 have S0:Aside _:=S
 have K1:=Lh k1
 have q1:((m:Int) - (a:Int)==1)=false:=by rw[beq_eq_false_iff_ne];omega
 have q2:((b:Int) - (m:Int)==1)=true:=by rw[beq_iff_eq];omega
 have hmb:m< d.size:=by omega
 have H2:=Lh h2
 clear S hC k1 h2 h0
 go_enter Tryz.func166,Tryz.ntmps166
 go_wp2_with fail
 go_loopg [14,15] (m) (fun gg vi vj wr=>∃i j:Nat,vi= .int .i64 i∧vj= .int .i64 j∧a≤i∧i≤j∧j≤m∧j - i≤gg∧Aside (SWK encA 2 w0 blk off d wr)∧Aside ((∀x,a≤x→x< i→ltOf cfA d[m]! d[x]! =false)∧(∀x,j≤x→x< m→ltOf cfA d[m]! d[x]! =true)))
 case atStart=>exact⟨a,m,by go_num,by go_num,Nat.le_refl _,by omega,Nat.le_refl _,by omega,S0,Lh ⟨fun x k1 k2=>by omega,fun x k1 k2=>by omega⟩⟩
 case round=>
  clear S0
  obtain⟨i,j,rfl,rfl,hi,hij,hj,hg,S1,HI⟩:=hrel
  by_cases hlt:i< j
  ·
   have hltI:(i:Int)< (j:Int):=by omega
   obtain⟨H,hH⟩:∃H,(i+j) / 2=H:=⟨_,rfl⟩
   have hHz:((i:Int)+(j:Int)) / 2=(H:Int):=by omega
   have hHi:i≤H∧H< j:=by omega
   cases hlt1:ltOf cfA d[m]! d[H]! with
   | false=>
    have e1i:((m:Int)).toNat=m:=by omega
    have p1i:(0:Int)≤(m:Int):=by omega
    have b1i:(m:Int)< (d.size:Int):=by omega
    have e1j:((H:Int)).toNat=H:=by omega
    have p1j:(0:Int)≤(H:Int):=by omega
    have b1j:(H:Int)< (d.size:Int):=by omega
    obtain⟨x1,hx1⟩:∃x,x=d[m]! :=⟨_,rfl⟩
    obtain⟨y1,hy1⟩:∃x,x=d[H]! :=⟨_,rfl⟩
    have l1a:=fun n os=>((S1.out.grown n os).c R (by omega) (m) (by omega)).1
    have l1b:=fun n os=>((S1.out.grown n os).c R (by omega) (m) (by omega)).2.1
    have l1c:=fun n os=>((S1.out.grown n os).c R (by omega) (H) (by omega)).1
    have l1d:=fun n os=>((S1.out.grown n os).c R (by omega) (H) (by omega)).2.1
    rw[←hx1]at l1a l1b
    rw[←hy1]at l1c l1d
    have hc1:∀n os,Calls Tryz.prog 80 #[.agg #[.string (bs x1.n),.string (bs x1.v)],.agg #[.string (bs y1.n),.string (bs y1.v)]] (grow (wr.drewN n) os) fun e w'=>e= .returned (.int .i64 (cfA x1 y1))∧∃q os',w'=grow ((grow (wr.drewN n) os).drewN q) os':=fun n os=>S1.out.cmp HC.out (by omega) x1 y1 n os
    have hv1:¬cfA x1 y1< 0:=by rw[hx1,hy1];exact of_decide_eq_false hlt1
    have hd1:decide (cfA x1 y1< 0)=false:=by simp[hv1]
    generalize cfA x1 y1=cv1 at hc1 hv1 hd1
    clear hx1 hy1
    go_wp2_with fail
    go_quiet_grown (first | (go_at_fn 80;refine Calls.grown_of (hc1 _ _)))
    have S1t:Aside (SWK encA 2 w0 blk off d (grow (wr.drewN nq) osq)):=S1.out.grown nq osq
    clear l1a l1b l1c l1d hc1 S1
    generalize grow (wr.drewN nq) osq=w1 at S1t⊢
    clear nq osq
    go_wp2_with fail
    go_roundg (j - (H+1))
    case measure=>omega
    case rel=>exact⟨H+1,j,by go_num,rfl,by omega,by omega,hj,Nat.le_refl _,S1t,Lh ⟨fun x k1 k2=>swoA.ntrans _ _ _ hlt1 (srt_le swoA K1.out k1 (show x≤H by omega) (by omega)),HI.out.2⟩⟩
   | true=>
    have e1i:((m:Int)).toNat=m:=by omega
    have p1i:(0:Int)≤(m:Int):=by omega
    have b1i:(m:Int)< (d.size:Int):=by omega
    have e1j:((H:Int)).toNat=H:=by omega
    have p1j:(0:Int)≤(H:Int):=by omega
    have b1j:(H:Int)< (d.size:Int):=by omega
    obtain⟨x1,hx1⟩:∃x,x=d[m]! :=⟨_,rfl⟩
    obtain⟨y1,hy1⟩:∃x,x=d[H]! :=⟨_,rfl⟩
    have l1a:=fun n os=>((S1.out.grown n os).c R (by omega) (m) (by omega)).1
    have l1b:=fun n os=>((S1.out.grown n os).c R (by omega) (m) (by omega)).2.1
    have l1c:=fun n os=>((S1.out.grown n os).c R (by omega) (H) (by omega)).1
    have l1d:=fun n os=>((S1.out.grown n os).c R (by omega) (H) (by omega)).2.1
    rw[←hx1]at l1a l1b
    rw[←hy1]at l1c l1d
    have hc1:∀n os,Calls Tryz.prog 80 #[.agg #[.string (bs x1.n),.string (bs x1.v)],.agg #[.string (bs y1.n),.string (bs y1.v)]] (grow (wr.drewN n) os) fun e w'=>e= .returned (.int .i64 (cfA x1 y1))∧∃q os',w'=grow ((grow (wr.drewN n) os).drewN q) os':=fun n os=>S1.out.cmp HC.out (by omega) x1 y1 n os
    have hv1:cfA x1 y1< 0:=by rw[hx1,hy1];exact of_decide_eq_true hlt1
    have hd1:decide (cfA x1 y1< 0)=true:=by simp[hv1]
    generalize cfA x1 y1=cv1 at hc1 hv1 hd1
    clear hx1 hy1
    go_wp2_with fail
    go_quiet_grown (first | (go_at_fn 80;refine Calls.grown_of (hc1 _ _)))
    have S1t:Aside (SWK encA 2 w0 blk off d (grow (wr.drewN nq) osq)):=S1.out.grown nq osq
    clear l1a l1b l1c l1d hc1 S1
    generalize grow (wr.drewN nq) osq=w1 at S1t⊢
    clear nq osq
    go_wp2_with fail
    go_roundg (H - i)
    case measure=>omega
    case rel=>exact⟨i,H,rfl,by go_num,hi,by omega,by omega,Nat.le_refl _,S1t,Lh ⟨HI.out.1,fun x k1 k2=>lt_mono' K1.out (show a≤H by omega) k1 k2 hlt1⟩⟩
  ·
   have hltI:¬(i:Int)< (j:Int):=by omega
   obtain rfl:i=j:=by omega
   have MG:=Lh (merge_right (i:=i) swoA K1.out hi hj hmb HI.out.1 HI.out.2)
   go_wp2_with fail
   go_loopg [17] m (fun gg vk wr=>∃I q:Nat,vk= .int .i64 I∧Hid (I+q=m)∧q≤m - i∧I≤m∧i≤I∧I≤gg∧Aside (SWK encA 2 w0 blk off (dnR d m q) wr))
   case atStart=>exact⟨m,0,by go_num,Lh rfl,Nat.zero_le _,Nat.le_refl _,by omega,Nat.le_refl _,S1⟩
   case round=>
    clear S1
    obtain⟨I,q,rfl,hIq,hq,hIm,hiI,hgI,S2⟩:=hrel
    by_cases hlk:i< I
    ·
     have hlkI:(i:Int)< (I:Int):=by omega
     have hsk:(dnR d m q).size=d.size:=dnR_size d m q
     have HN:Hid (swp (dnR d m q) (m - q) (m - q - 1)=dnR d m (q+1)):=Lh rfl
     obtain⟨dk,hdk⟩:∃dk,dnR d m q=dk:=⟨_,rfl⟩
     rw[hdk]at S2 hsk HN
     rw[show m - q=I by have:=hIq.out;omega]at HN
     obtain⟨J,hJ⟩:∃J,I - 1=J:=⟨_,rfl⟩
     rw[hJ]at HN
     have hJ2:J< I∧I≤J+1:=by omega
     clear hdk hJ
     have eqi:((I:Int)).toNat=I:=by omega
     have pqi:(0:Int)≤(I:Int):=by omega
     have bqi:(I:Int)< (d.size:Int):=by omega
     have eqj:((I:Int) - 1).toNat=J:=by omega
     have pqj:(0:Int)≤(I:Int) - 1:=by omega
     have bqj:(I:Int) - 1< (d.size:Int):=by omega
     have S2q:Aside (SWK encA 2 w0 blk off (swp dk (I) (J)) ((((wr.setCell ⟨blk,off+(I)*2,none⟩ (.string (bs dk[J]!.n))).setCell ⟨blk,off+(I)*2+1,none⟩ (.string (bs dk[J]!.v))).setCell ⟨blk,off+(J)*2,none⟩ (.string (bs dk[I]!.n))).setCell ⟨blk,off+(J)*2+1,none⟩ (.string (bs dk[I]!.v))).drew):=S2.out.swapped R (I) (J) (by omega) (by omega)
     obtain⟨cq0,cq1,fq0,fq1⟩:=S2.out.c R (by omega) (I) (by omega)
     obtain⟨cq2,cq3,fq2,fq3⟩:=S2.out.c R (by omega) (J) (by omega)
     generalize dk[I]! =xIq at S2q cq0 cq1
     generalize dk[J]! =xJq at S2q cq2 cq3
     obtain⟨oiq,hoiq⟩:∃o,off+(I)*2=o:=⟨_,rfl⟩
     obtain⟨ojq,hojq⟩:∃o,off+(J)*2=o:=⟨_,rfl⟩
     have neqa:¬oiq=ojq:=by omega
     have neqb:¬oiq=ojq+1:=by omega
     have neqc:¬oiq+1=ojq:=by omega
     have neqd:¬oiq=oiq+1:=by omega
     have neqe:¬ojq=ojq+1:=by omega
     rw[hoiq,hojq]at S2q
     rw[hoiq]at cq0 cq1 fq0 fq1
     rw[hojq]at cq2 cq3 fq2 fq3
     clear S2
     go_wp2_with fail
     go_big_region_o
     clear cq0 cq1 cq2 cq3 fq0 fq1 fq2 fq3 neqa neqb neqc neqd neqe hoiq hojq
     generalize ((((wr.setCell ⟨blk,oiq,none⟩ (.string (bs xJq.n))).setCell ⟨blk,oiq+1,none⟩ (.string (bs xJq.v))).setCell ⟨blk,ojq,none⟩ (.string (bs xIq.n))).setCell ⟨blk,ojq+1,none⟩ (.string (bs xIq.v))).drew=wq at S2q⊢
     go_wp2_with fail
     go_roundg (I - 1)
     case measure=>omega
     case rel=>exact⟨J,q+1,by go_num,Lh (by have:=hIq.out;omega),by have:=hIq.out;omega,by omega,by omega,by omega,by rw[←HN.out];exact S2q⟩
    ·
     have hlkI:¬(i:Int)< (I:Int):=by omega
     obtain rfl:I=i:=by omega
     obtain rfl:q=m - I:=by have:=hIq.out;omega
     go_wp2_with fail
     (try simp only[Exit.inBlock,Exit.then])
     refine bodyPost_ret (results_none rfl _ _ _) rfl ?_
     exact⟨rfl,_,by rw[H2.out];exact(MG.out).1,by rw[H2.out];exact(MG.out).2,S2.out⟩
theorem merge_any {d0:Array Attr} {w0:World} {blk off cap:Nat} (R:RowK encA 2 w0 blk off d0) (hC:CmpLays Tryz.prog 80 #[] encA 2 cfA blk off d0.size w0):∀(N:Nat) (d:Array Attr) (w:World) (hs:d0.size=d.size) (S:SWK encA 2 w0 blk off d w) (hsz:d.size≤16777216) (a m b:Nat) (hN:b - a≤N) (h1:a< m) (h2:m< b) (h3:b≤d.size) (k1:SortedIn (ltOf cfA) a m d) (k2:SortedIn (ltOf cfA) m b d),
  Calls Tryz.prog 166 #[.slice (some ⟨blk,off,none⟩) d.size cap,.int .i64 a,.int .i64 m,.int .i64 b,.func (.func 80) #[] #[]] w fun e w'=>e= .returned (.tuple #[])∧∃d',PermIn a b d d'∧SortedIn (ltOf cfA) a b d'∧SWK encA 2 w0 blk off d' w':=by
 intro N
 induction N with
 | zero=>intro d w hs S hsz a m b hN h1 h2;omega
 | succ N ih=>
 intro d w hs S hsz a m b hN h1 h2 h3 k1 k2
 by_cases hm1:m=a+1
 ·
  exact merge1_any trivial d0 d w0 w blk off cap R hs S hsz hC a m b hm1 h2 h3 k2
 by_cases hb1:b=m+1
 ·
  exact merge2_any d0 d w0 w blk off cap R hs S hsz hC a m b hm1 h1 hb1 h3 k1
 have mixed:Tryz.prog.follows Departure.mixedOrders=true:=by kernel_rfl
 have eg:∀args w,(callFunc 80 args).run Tryz.prog w= .ok (.enter 80 args) w:=enters_of Tryz.func80 (by kernel_rfl) rfl
 have HC:Aside _:=hC
 have IH:Aside _:=ih
 have S0:Aside _:=S
 have K1:=Lh k1
 have K2:=Lh k2
 have q1:((m:Int) - (a:Int)==1)=false:=by rw[beq_eq_false_iff_ne];omega
 have q2:((b:Int) - (m:Int)==1)=false:=by rw[beq_eq_false_iff_ne];omega
 obtain⟨mid,hmid⟩:∃mid,(a+b) / 2=mid:=⟨_,rfl⟩
 have zmid:((a:Int)+(b:Int)) / 2=(mid:Int):=by omega
 obtain⟨lo,hlo⟩:∃lo,(if mid< m then mid+m - b else a)=lo:=⟨_,rfl⟩
 obtain⟨hi,hhi⟩:∃hi,(if mid< m then mid else m)=hi:=⟨_,rfl⟩
 have qb:a≤lo∧lo≤hi∧hi≤m∧hi≤mid∧mid+m - lo≤b∧lo< m:=by split at hlo<;> split at hhi<;> omega
 obtain⟨pv,hpv⟩:∃pv,mid+m - 1=pv:=⟨_,rfl⟩
 have zpv:(mid:Int)+(m:Int) - 1=(pv:Int):=by omega
 have HPV:=Lh hpv
 have HLO:=Lh (And.intro hlo hhi)
 have HM:=Lh hmid
 clear S hC k1 k2 hlo hhi hm1 hb1 ih hmid hpv
 go_enter Tryz.func166,Tryz.ntmps166
 go_upto_if 140 with fail
 go_cut [20,21] (fun s r wx=>s= .int .i64 lo∧r= .int .i64 hi∧wx=w)
 case first=>as_aux_lemma=>
  by_cases hc:mid< m
  ·
   have hcI:(mid:Int)< (m:Int):=by omega
   have e1:(mid:Int)+(m:Int) - (b:Int)=(lo:Int):=by have:=HLO.out.1;rw[if_pos hc]at this;omega
   have e2:mid=hi:=by have:=HLO.out.2;rwa [if_pos hc]at this
   go_wp2_with fail
   go_meet
   case rel=>exact⟨by go_num,by rw[e2],rfl⟩
  ·
   have hcI:¬(mid:Int)< (m:Int):=by omega
   have e1:a=lo:=by have:=HLO.out.1;rwa [if_neg hc]at this
   have e2:m=hi:=by have:=HLO.out.2;rwa [if_neg hc]at this
   have E:=Lh (And.intro e1 e2)
   clear e1 e2
   go_wp2_with fail
   go_meet
   case rel=>exact⟨by rw[E.out.1],by rw[E.out.2],rfl⟩
 case rest=>
 obtain⟨rfl,rfl,rfl⟩:=hcut
 go_wp2_with fail
 go_loopg [20,21] (hi) (fun gg vi vj wr=>∃i j:Nat,vi= .int .i64 i∧vj= .int .i64 j∧lo≤i∧i≤j∧j≤hi∧j - i≤gg∧Aside (SWK encA 2 w0 blk off d wr)∧Aside ((i=lo∨ltOf cfA d[mid+m - 1 - (i - 1)]! d[i - 1]! =false)∧(j=hi∨ltOf cfA d[mid+m - 1 - j]! d[j]! =true)))
 case atStart=>exact⟨lo,hi,by go_num,by go_num,Nat.le_refl _,by omega,Nat.le_refl _,by omega,S0,Lh ⟨.inl rfl,.inl rfl⟩⟩
 case round=>
  clear S0
  obtain⟨i,j,rfl,rfl,hi,hij,hj,hg,S1,HI⟩:=hrel
  by_cases hlt:i< j
  ·
   have hltI:(i:Int)< (j:Int):=by omega
   obtain⟨H,hH⟩:∃H,(i+j) / 2=H:=⟨_,rfl⟩
   have hHz:((i:Int)+(j:Int)) / 2=(H:Int):=by omega
   have hHi:i≤H∧H< j:=by omega
   cases hlt1:ltOf cfA d[mid+m - 1 - H]! d[H]! with
   | false=>
    obtain⟨P,hP⟩:∃P,mid+m - 1 - H=P:=⟨_,rfl⟩
    have HL1:=Lh hlt1
    rw[hP]at hlt1
    have hPb:P< b∧P+H≤pv∧pv≤P+H:=by have:=HPV.out;omega
    have zP:(pv:Int) - (H:Int)=(P:Int):=by omega
    have rP:IntKind.i64.wrap (P:Int)=(P:Int):=by rw[IntKind.wrap_i64];omega
    clear hP
    have e1i:((P:Int)).toNat=P:=by omega
    have p1i:(0:Int)≤(P:Int):=by omega
    have b1i:(P:Int)< (d.size:Int):=by omega
    have e1j:((H:Int)).toNat=H:=by omega
    have p1j:(0:Int)≤(H:Int):=by omega
    have b1j:(H:Int)< (d.size:Int):=by omega
    obtain⟨x1,hx1⟩:∃x,x=d[P]! :=⟨_,rfl⟩
    obtain⟨y1,hy1⟩:∃x,x=d[H]! :=⟨_,rfl⟩
    have l1a:=fun n os=>((S1.out.grown n os).c R (by omega) (P) (by omega)).1
    have l1b:=fun n os=>((S1.out.grown n os).c R (by omega) (P) (by omega)).2.1
    have l1c:=fun n os=>((S1.out.grown n os).c R (by omega) (H) (by omega)).1
    have l1d:=fun n os=>((S1.out.grown n os).c R (by omega) (H) (by omega)).2.1
    rw[←hx1]at l1a l1b
    rw[←hy1]at l1c l1d
    have hc1:∀n os,Calls Tryz.prog 80 #[.agg #[.string (bs x1.n),.string (bs x1.v)],.agg #[.string (bs y1.n),.string (bs y1.v)]] (grow (wr.drewN n) os) fun e w'=>e= .returned (.int .i64 (cfA x1 y1))∧∃q os',w'=grow ((grow (wr.drewN n) os).drewN q) os':=fun n os=>S1.out.cmp HC.out (by omega) x1 y1 n os
    have hv1:¬cfA x1 y1< 0:=by rw[hx1,hy1];exact of_decide_eq_false hlt1
    have hd1:decide (cfA x1 y1< 0)=false:=by simp[hv1]
    generalize cfA x1 y1=cv1 at hc1 hv1 hd1
    clear hx1 hy1
    go_wp2_with fail
    go_quiet_grown (first | (go_at_fn 80;refine Calls.grown_of (hc1 _ _)))
    have S1t:Aside (SWK encA 2 w0 blk off d (grow (wr.drewN nq) osq)):=S1.out.grown nq osq
    clear l1a l1b l1c l1d hc1 S1
    generalize grow (wr.drewN nq) osq=w1 at S1t⊢
    clear nq osq
    go_wp2_with fail
    go_roundg (j - (H+1))
    case measure=>omega
    case rel=>exact⟨H+1,j,by go_num,rfl,by omega,by omega,hj,Nat.le_refl _,S1t,Lh ⟨.inr (by rw[Nat.add_sub_cancel];exact HL1.out),HI.out.2⟩⟩
   | true=>
    obtain⟨P,hP⟩:∃P,mid+m - 1 - H=P:=⟨_,rfl⟩
    have HL1:=Lh hlt1
    rw[hP]at hlt1
    have hPb:P< b∧P+H≤pv∧pv≤P+H:=by have:=HPV.out;omega
    have zP:(pv:Int) - (H:Int)=(P:Int):=by omega
    have rP:IntKind.i64.wrap (P:Int)=(P:Int):=by rw[IntKind.wrap_i64];omega
    clear hP
    have e1i:((P:Int)).toNat=P:=by omega
    have p1i:(0:Int)≤(P:Int):=by omega
    have b1i:(P:Int)< (d.size:Int):=by omega
    have e1j:((H:Int)).toNat=H:=by omega
    have p1j:(0:Int)≤(H:Int):=by omega
    have b1j:(H:Int)< (d.size:Int):=by omega
    obtain⟨x1,hx1⟩:∃x,x=d[P]! :=⟨_,rfl⟩
    obtain⟨y1,hy1⟩:∃x,x=d[H]! :=⟨_,rfl⟩
    have l1a:=fun n os=>((S1.out.grown n os).c R (by omega) (P) (by omega)).1
    have l1b:=fun n os=>((S1.out.grown n os).c R (by omega) (P) (by omega)).2.1
    have l1c:=fun n os=>((S1.out.grown n os).c R (by omega) (H) (by omega)).1
    have l1d:=fun n os=>((S1.out.grown n os).c R (by omega) (H) (by omega)).2.1
    rw[←hx1]at l1a l1b
    rw[←hy1]at l1c l1d
    have hc1:∀n os,Calls Tryz.prog 80 #[.agg #[.string (bs x1.n),.string (bs x1.v)],.agg #[.string (bs y1.n),.string (bs y1.v)]] (grow (wr.drewN n) os) fun e w'=>e= .returned (.int .i64 (cfA x1 y1))∧∃q os',w'=grow ((grow (wr.drewN n) os).drewN q) os':=fun n os=>S1.out.cmp HC.out (by omega) x1 y1 n os
    have hv1:cfA x1 y1< 0:=by rw[hx1,hy1];exact of_decide_eq_true hlt1
    have hd1:decide (cfA x1 y1< 0)=true:=by simp[hv1]
    generalize cfA x1 y1=cv1 at hc1 hv1 hd1
    clear hx1 hy1
    go_wp2_with fail
    go_quiet_grown (first | (go_at_fn 80;refine Calls.grown_of (hc1 _ _)))
    have S1t:Aside (SWK encA 2 w0 blk off d (grow (wr.drewN nq) osq)):=S1.out.grown nq osq
    clear l1a l1b l1c l1d hc1 S1
    generalize grow (wr.drewN nq) osq=w1 at S1t⊢
    clear nq osq
    go_wp2_with fail
    go_roundg (H - i)
    case measure=>omega
    case rel=>exact⟨i,H,rfl,by go_num,hi,by omega,by omega,Nat.le_refl _,S1t,Lh ⟨HI.out.1,.inr HL1.out⟩⟩
  ·
   as_aux_lemma=>
   have hltI:¬(i:Int)< (j:Int):=by omega
   obtain rfl:i=j:=by omega
   obtain⟨en,hen⟩:∃en,mid+m - i=en:=⟨_,rfl⟩
   have zen:(mid:Int)+(m:Int) - (i:Int)=(en:Int):=by omega
   have qe:i≤m∧m≤en∧en≤b∧a≤i:=by omega
   have HS:Hid (∀d',Rot d i m en d'→a≤i∧i≤mid∧mid≤en∧en≤b∧PermIn a b d d'∧SortedIn (ltOf cfA) a i d'∧SortedIn (ltOf cfA) i mid d'∧SortedIn (ltOf cfA) mid en d'∧SortedIn (ltOf cfA) en b d'∧∀x y,a≤x→x< mid→mid≤y→y< b→ltOf cfA d'[y]! d'[x]! =false):=Lh fun d' hR=>by
    have:=sym_end swoA K1.out K2.out HM.out.symm h1 h2 HLO.out.1.symm HLO.out.2.symm hi hj HI.out.1 HI.out.2 (show Rot d i m (mid+m - i) d' by rw[hen];exact hR) h3
    rwa [hen]at this
   clear HI hen
   go_upto_region 39 with fail
   go_cut [185] (fun s wx=>s= .bool (decide (i< m∧m< en))∧wx=wr)
   case first=>as_aux_lemma=>
    by_cases c1:i< m
    ·
     have c1I:(i:Int)< (m:Int):=by omega
     by_cases c2:m< en
     ·
      have c2I:(m:Int)< (en:Int):=by omega
      go_wp2_with fail
      go_meet
      case rel=>exact⟨by simp[c1,c2],rfl⟩
     ·
      have c2I:¬(m:Int)< (en:Int):=by omega
      go_wp2_with fail
      go_meet
      case rel=>exact⟨by simp[c1,c2],rfl⟩
    ·
     have c1I:¬(i:Int)< (m:Int):=by omega
     go_wp2_with fail
     go_meet
     case rel=>exact⟨by simp[c1],rfl⟩
   case rest=>
   obtain⟨rfl,rfl⟩:=hcut
   go_upto_if 185 with fail
   go_cut [] (fun wx=>∃d':Array Attr,d'.size=d.size∧Hid (Rot d i m en d')∧Aside (SWK encA 2 w0 blk off d' wx))
   case first=>as_aux_lemma=>
    by_cases c:i< m∧m< en
    ·
     have q:=decide_eq_true c
     have HCR:=Lh (rotate_any d0 d w0 wc blk off cap R hs S1.out hsz (.func (.func 80) #[] #[]) i m en c.1 c.2 (by omega))
     go_wp2_with fail
     refine HCR.out.mono ?_
     rintro e w2 ⟨rfl,d',hR,S2⟩
     go_wp2_with fail
     go_meet
     case rel=>exact⟨d',hR.1.1,Lh hR,S2⟩
    ·
     have q:=decide_eq_false c
     go_wp2_with fail
     go_meet
     case rel=>exact⟨d,rfl,Lh (rot_triv (by omega) (by omega) (by omega)),S1⟩
   case rest=>
   obtain⟨d1,z1,HR1,S2⟩:=hcut
   obtain⟨g1,g2,g3,g4,g5,g6,g7,g8,g9,g10⟩:=HS.out d1 HR1.out
   have HG:=Lh (And.intro g5 (And.intro g6 (And.intro g7 (And.intro g8 (And.intro g9 g10)))))
   clear g5 g6 g7 g8 g9 g10 S1 HS HR1
   go_upto_region 41 with fail
   go_cut [199] (fun s wx=>s= .bool (decide (a< i∧i< mid))∧wx=wc)
   case first=>as_aux_lemma=>
    by_cases c1:a< i
    ·
     have c1I:(a:Int)< (i:Int):=by omega
     by_cases c2:i< mid
     ·
      have c2I:(i:Int)< (mid:Int):=by omega
      go_wp2_with fail
      go_meet
      case rel=>exact⟨by simp[c1,c2],rfl⟩
     ·
      have c2I:¬(i:Int)< (mid:Int):=by omega
      go_wp2_with fail
      go_meet
      case rel=>exact⟨by simp[c1,c2],rfl⟩
    ·
     have c1I:¬(a:Int)< (i:Int):=by omega
     go_wp2_with fail
     go_meet
     case rel=>exact⟨by simp[c1],rfl⟩
   case rest=>
   obtain⟨rfl,rfl⟩:=hcut
   go_upto_if 199 with fail
   go_cut [] (fun wx=>∃d2:Array Attr,d2.size=d.size∧Hid (if a< i∧i< mid then PermIn a mid d1 d2∧SortedIn (ltOf cfA) a mid d2 else d2=d1)∧Aside (SWK encA 2 w0 blk off d2 wx))
   case first=>as_aux_lemma=>
    by_cases c:a< i∧i< mid
    ·
     have q:=decide_eq_true c
     have HCM:=Lh (IH.out d1 _ (by omega) S2.out (by omega) a i mid (by omega) c.1 c.2 (by omega) HG.out.2.1 HG.out.2.2.1)
     rw[z1]at HCM
     go_wp2_with fail
     refine HCM.out.mono ?_
     rintro e w3 ⟨rfl,d2,p1,p2,S3⟩
     go_wp2_with fail
     go_meet
     case rel=>exact⟨d2,p1.1.trans z1,Lh (by rw[if_pos c];exact⟨p1,p2⟩),S3⟩
    ·
     have q:=decide_eq_false c
     go_wp2_with fail
     go_meet
     case rel=>exact⟨d1,z1,Lh (by rw[if_neg c]),S2⟩
   case rest=>
   obtain⟨d2,z2,HP2,S3⟩:=hcut
   clear S2
   have HFIN:Hid (∀d3,(if mid< en∧en< b then PermIn mid b d2 d3∧SortedIn (ltOf cfA) mid b d3 else d3=d2)→PermIn a b d d3∧SortedIn (ltOf cfA) a b d3):=Lh fun d3 h=>sym_done (m:=m) g1 g2 g3 g4 h3 HG.out.1 HG.out.2.1 HG.out.2.2.1 HG.out.2.2.2.1 HG.out.2.2.2.2.1 HG.out.2.2.2.2.2 HP2.out h
   have HSR:Hid (SortedIn (ltOf cfA) mid en d2∧SortedIn (ltOf cfA) en b d2):=Lh (by
    have o:∀x,mid≤x→d2[x]! =d1[x]! :=by
     have:=HP2.out
     split at this
     ·
      exact fun x hx=>this.1.2.1 x (by omega)
     ·
      rw[this];exact fun _ _=>rfl
    exact⟨srt_same HG.out.2.2.2.1 fun x hx _=>o x hx,srt_same HG.out.2.2.2.2.1 fun x hx _=>o x (by omega)⟩)
   clear HP2 HG
   go_upto_region 43 with fail
   go_cut [213] (fun s wx=>s= .bool (decide (mid< en∧en< b))∧wx=wc)
   case first=>as_aux_lemma=>
    by_cases c1:mid< en
    ·
     have c1I:(mid:Int)< (en:Int):=by omega
     by_cases c2:en< b
     ·
      have c2I:(en:Int)< (b:Int):=by omega
      go_wp2_with fail
      go_meet
      case rel=>exact⟨by simp[c1,c2],rfl⟩
     ·
      have c2I:¬(en:Int)< (b:Int):=by omega
      go_wp2_with fail
      go_meet
      case rel=>exact⟨by simp[c1,c2],rfl⟩
    ·
     have c1I:¬(mid:Int)< (en:Int):=by omega
     go_wp2_with fail
     go_meet
     case rel=>exact⟨by simp[c1],rfl⟩
   case rest=>
   obtain⟨rfl,rfl⟩:=hcut
   go_upto_if 213 with fail
   by_cases c:mid< en∧en< b
   ·
    have q:=decide_eq_true c
    have HCM:=Lh (IH.out d2 _ (by omega) S3.out (by omega) mid en b (by omega) c.1 c.2 (by omega) HSR.out.1 HSR.out.2)
    rw[z2]at HCM
    go_wp2_with fail
    refine HCM.out.mono ?_
    rintro e w4 ⟨rfl,d3,p1,p2,S4⟩
    go_wp2_with fail
    refine bodyPost_end (results_none rfl _ _ _) rfl ?_
    exact⟨rfl,d3,(HFIN.out d3 (by rw[if_pos c];exact⟨p1,p2⟩)).1,(HFIN.out d3 (by rw[if_pos c];exact⟨p1,p2⟩)).2,S4⟩
   ·
    have q:=decide_eq_false c
    go_wp2_with fail
    refine bodyPost_end (results_none rfl _ _ _) rfl ?_
    exact⟨rfl,d2,(HFIN.out d2 (by rw[if_neg c])).1,(HFIN.out d2 (by rw[if_neg c])).2,S3.out⟩
end Go.Proofs.YtebhipeeogoagaaGreatDoor
