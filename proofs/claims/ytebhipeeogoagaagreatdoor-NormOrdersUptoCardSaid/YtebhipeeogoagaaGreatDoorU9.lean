/-
 slices:the stable sort of attributes. Helper lemmas;no statement of the seat is proved here.
-/
import Derived.Test.YtebhipeeogoagaaGreatDoorU8
import Derived.Test.YtebhipeeogoagaaGreatDoorU4
import Derived.Test.YtebhipeeogoagaaGreatDoorZhelf
import Derived.Test.YtebhipeeogoagaaGreatDoorU7
import Derived.Sort.Grow
import Derived.Deep.DeepCutAuto
namespace Go.Proofs.YtebhipeeogoagaaGreatDoor
open Go.RowKit Go.Sort Go.Lib
set_option maxHeartbeats 32000000
set_option maxRecDepth 100000
set_option linter.unusedVariables false
set_option linter.unusedSimpArgs false
def Tryz.insA_ren:Go.Shelf.Ren:=⟨fun | 20=>165 | n=>n,fun | 22=>23 | 24=>62 | 25=>146 | 0=>0 | 3=>3 | 4=>4 | n=>n,fun n=>n⟩
theorem Tryz.insA:Go.Proofs.SlLaysF0.n20 Tryz.prog Tryz.insA_ren:={
 mixed:=by kernel_rfl
 f20:=⟨Tryz.f165.name,by decide,Tryz.func165.trans (congrArg some (by kernel_rfl))⟩
 t0:=Tryz.underlying0
 a0:=Tryz.isAgg0
 z0:=Tryz.sizeOf0
 v0:=Tryz.zeroValue0
 t3:=Tryz.underlying3
 a3:=Tryz.isAgg3
 z3:=Tryz.sizeOf3
 v3:=Tryz.zeroValue3
 t4:=Tryz.underlying4
 a4:=Tryz.isAgg4
 z4:=Tryz.sizeOf4
 v4:=Tryz.zeroValue4
 t22:=Tryz.underlying23
 a22:=Tryz.isAgg23
 z22:=Tryz.sizeOf23
 v22:=Tryz.zeroValue23
 t25:=Tryz.underlying146
 a25:=Tryz.isAgg146
 z25:=Tryz.sizeOf146
 v25:=Tryz.zeroValue146}
section
variable {lt:Attr→Attr→Bool} {d d':Array Attr}
def Bl1 (lt:Attr→Attr→Bool) (t k:Nat) (d:Array Attr):Prop:=∀j,j< k→SortedIn lt (j*t) (j*t+t) d
def Bl2 (lt:Attr→Attr→Bool) (t n:Nat) (d:Array Attr):Prop:=∀j,SortedIn lt (j*t) (min (j*t+t) n) d
def Bl3 (lt:Attr→Attr→Bool) (s k n:Nat) (d:Array Attr):Prop:=∀j,2*k≤j→SortedIn lt (j*s) (min (j*s+s) n) d
theorem mul_step {j k:Nat} (t:Nat) (h:j< k):j*t+t≤k*t:=by have:=Nat.mul_le_mul_right t (show j+1≤k from h);rwa [Nat.add_mul,Nat.one_mul]at this
theorem bl_keep {a b x y:Nat} (h:SortedIn lt x y d) (hp:PermIn a b d d') (k:y≤a∨b≤x):SortedIn lt x y d':=srt_same h fun z h1 h2=>hp.2.1 z (by omega)
theorem bl_one {t k:Nat} (h:Bl1 lt t k d) (hp:PermIn (k*t) (k*t+t) d d') (hs:SortedIn lt (k*t) (k*t+t) d'):Bl1 lt t (k+1) d':=fun j hj=>by
 by_cases e:j=k
 ·
  rw[e];exact hs
 ·
  exact bl_keep (h j (by omega)) hp (.inl (mul_step t (by omega)))
theorem bl_two {t k n:Nat} (h:Bl1 lt t k d) (hn:n< k*t+t) (hp:PermIn (k*t) n d d') (hs:SortedIn lt (k*t) n d'):Bl2 lt t n d':=fun j=>by
 by_cases e:j< k
 ·
  exact srt_sub (bl_keep (h j e) hp (.inl (mul_step t e))) (Nat.le_refl _) (by omega)
 ·
  have:k*t≤j*t:=Nat.mul_le_mul_right t (by omega)
  exact srt_sub hs this (by omega)
theorem two_mul' (k s:Nat):(2*k)*s=k*(2*s)∧(2*k+1)*s=k*(2*s)+s:=by
 have e:(2*k)*s=k*(2*s):=by rw[Nat.mul_comm 2 k,Nat.mul_assoc]
 exact⟨e,by rw[Nat.add_mul,e,Nat.one_mul]⟩
theorem bl_pair {s k n:Nat} (h:Bl3 lt s k n d):SortedIn lt (k*(2*s)) (min (k*(2*s)+s) n) d∧SortedIn lt (k*(2*s)+s) (min (k*(2*s)+s+s) n) d:=by
 have h1:=h (2*k) (Nat.le_refl _)
 have h2:=h (2*k+1) (by omega)
 rw[(two_mul' k s).1]at h1
 rw[(two_mul' k s).2]at h2
 exact⟨h1,h2⟩
theorem bl_three {s k n:Nat} (h:Bl3 lt s k n d) (hp:PermIn (k*(2*s)) (k*(2*s)+2*s) d d'):Bl3 lt s (k+1) n d':=fun j hj=>by
 refine bl_keep (h j (by omega)) hp (.inr ?_)
 have h1:(2*(k+1))*s≤j*s:=Nat.mul_le_mul_right s hj
 rw[(two_mul' (k+1) s).1,Nat.add_mul,Nat.one_mul]at h1
 exact h1
theorem bl_start {s n:Nat} (h:Bl2 lt s n d):Bl1 lt (2*s) 0 d∧Bl3 lt s 0 n d:=⟨fun j hj=>absurd hj (Nat.not_lt_zero j),fun j _=>h j⟩
theorem bl_end {s n:Nat} (h:Bl2 lt s n d) (hn:n≤s):SortedIn lt 0 n d:=by
 have:=h 0
 rw[Nat.zero_mul,Nat.zero_add,Nat.min_eq_right hn]at this
 exact this
end
theorem cmp_on {d0 d:Array Attr} {w0 w:World} {blk off:Nat} (R:RowK encA 2 w0 blk off d0) (hC:CmpLays Tryz.prog 80 #[] encA 2 cfA blk off d0.size w0) (hs:d0.size=d.size) (S:SWK encA 2 w0 blk off d w):CmpLays Tryz.prog 80 #[] encA 2 cfA blk off d.size w:=fun m os dk hk x y=>by
 obtain⟨n,os',e⟩:=S.on R.hblk m dk os hk
 rw[e]
 exact hC n os' dk (by omega) x y
theorem ins_any (d0 d:Array Attr) (w0 w:World) (blk off cap:Nat) (R:RowK encA 2 w0 blk off d0) (hs:d0.size=d.size) (S:SWK encA 2 w0 blk off d w) (hsz:d.size≤16777216) (hC:CmpLays Tryz.prog 80 #[] encA 2 cfA blk off d0.size w0) (a b:Nat) (hab:a≤b) (hb:b≤d.size):
  Calls Tryz.prog 165 #[.slice (some ⟨blk,off,none⟩) d.size cap,.int .i64 a,.int .i64 b,.func (.func 80) #[] #[]] w fun e w'=>e= .returned (.tuple #[])∧∃d',PermIn a b d d'∧SortedIn (ltOf cfA) a b d'∧SWK encA 2 w0 blk off d' w':=by
 have h:=Go.Proofs.AnyQ.insertionSortCmpFunc Tryz.insA 2 Tryz.isAgg62 Tryz.sizeOf62 encA R.hk R.h1 cfA 80 #[] blk off cap a b d w
  (enters_of Tryz.func80 (by kernel_rfl) rfl) (cmp_on R hC hs S) (S.holds R.hblk R.hH (by omega)) (S.lt R.hblk) hab hb (by omega)
 refine h.mono ?_
 rintro e w' ⟨rfl,n,os,rfl⟩
 have hi:=insertionSort_holds swoA d a b hab hb
 exact⟨rfl,_,hi.1,hi.2,S.on R.hblk n _ os hi.1.1⟩
theorem stable_any (d0 d:Array Attr) (w0 w:World) (blk off cap:Nat) (R:RowK encA 2 w0 blk off d0) (hs:d0.size=d.size) (S:SWK encA 2 w0 blk off d w) (hsz:d.size≤16777216) (hC:CmpLays Tryz.prog 80 #[] encA 2 cfA blk off d0.size w0):
  Calls Tryz.prog 123 #[.slice (some ⟨blk,off,none⟩) d.size cap,.int .i64 d.size,.func (.func 80) #[] #[]] w fun e w'=>e= .returned (.tuple #[])∧∃d',PermIn 0 d.size d d'∧SortedIn (ltOf cfA) 0 d.size d'∧SWK encA 2 w0 blk off d' w':=by
 have S0:Aside _:=S
 have HC:Aside _:=hC
 obtain⟨n,hn⟩:∃n,d.size=n:=⟨_,rfl⟩
 have HN:=Lh hn
 rw[hn]at hs hsz⊢
 have B0:Hid (PermIn 0 n d d∧Bl1 (ltOf cfA) 20 0 d):=Lh ⟨permIn_refl d 0 n,fun j hj=>absurd hj (Nat.not_lt_zero j)⟩
 clear S hC hn
 go_enter Tryz.func123,Tryz.ntmps123
 go_wp2_with fail
 go_loopg [7,8] (n+20) (fun gg va vb wr=>∃(k a b:Nat) (dk:Array Attr),va= .int .i64 a∧vb= .int .i64 b∧Hid (a=k*20)∧Hid (b=k*20+20)∧b=a+20∧a≤n∧n+20 - a≤gg∧Hid (dk.size=n)∧Aside (SWK encA 2 w0 blk off dk wr)∧Hid (PermIn 0 n d dk∧Bl1 (ltOf cfA) 20 k dk))
 case atStart=>exact⟨0,0,20,d,rfl,rfl,Lh rfl,Lh rfl,rfl,Nat.zero_le _,by omega,HN,S0,B0⟩
 case round=>
  clear S0 B0
  obtain⟨k,a,b,dk,rfl,rfl,ha,hb,hba,han,hg,hk,S1,HB⟩:=hrel
  have HBA:=Lh hba
  have hab:a≤b∧a+20≤b:=by omega
  by_cases hlt:b≤n
  ·
   have hltI:(b:Int)≤(n:Int):=by omega
   have HI:=Lh (ins_any d0 dk w0 wr blk off cap R (by have:=hk.out;omega) S1.out (by have:=hk.out;omega) HC.out a b hab.1 (by have:=hk.out;omega))
   rw[hk.out]at HI
   clear hba
   go_wp2_with fail
   refine HI.out.mono ?_
   rintro e w2 ⟨rfl,d2,p1,p2,S2⟩
   have HP:=Lh (And.intro p1 p2)
   clear p1 p2
   go_wp2_with fail
   go_roundg (n+20 - b)
   case measure=>omega
   case rel=>
    refine⟨k+1,b,b+20,d2,rfl,by go_num,Lh (by rw[hb.out,Nat.add_mul]),Lh (by rw[hb.out,Nat.add_mul]),rfl,hlt,Nat.le_refl _,Lh (HP.out.1.1.trans hk.out),S2,Lh ⟨?_,?_⟩⟩
    ·
     exact permIn_trans _ _ _ _ _ HB.out.1 (permIn_mono _ _ _ _ _ _ (Nat.zero_le _) hlt (by have:=hk.out;omega) HP.out.1)
    ·
     exact bl_one HB.out.2 (by rw[←ha.out,←HBA.out];exact HP.out.1) (by rw[←ha.out,←HBA.out];exact HP.out.2)
  ·
   have hltI:¬(b:Int)≤(n:Int):=by omega
   have HI:=Lh (ins_any d0 dk w0 wr blk off cap R (by have:=hk.out;omega) S1.out (by have:=hk.out;omega) HC.out a n han (by have:=hk.out;omega))
   rw[hk.out]at HI
   clear hba
   go_wp2_with fail
   refine HI.out.mono ?_
   rintro e w2 ⟨rfl,d2,p1,p2,S2⟩
   have B2:Hid (PermIn 0 n d d2∧Bl2 (ltOf cfA) 20 n d2):=Lh ⟨permIn_trans _ _ _ _ _ HB.out.1 (permIn_mono _ _ _ _ _ _ (Nat.zero_le _) (Nat.le_refl _) (by have:=hk.out;omega) p1),bl_two HB.out.2 (by have:=hb.out;omega) (by rw[←ha.out];exact p1) (by rw[←ha.out];exact p2)⟩
   have hk2:Hid (d2.size=n):=Lh (p1.1.trans hk.out)
   clear p1 p2 HB S1 ha hb hk hab hltI hlt han hg HBA
   go_wp2_with fail
   go_loopg [6,7,8,9] n (fun gg vs _ _ _ wr=>∃(s:Nat) (dk:Array Attr),vs= .int .i64 s∧20≤s∧s≤2*n+20∧n - s≤gg∧Hid (dk.size=n)∧Aside (SWK encA 2 w0 blk off dk wr)∧Hid (PermIn 0 n d dk∧Bl2 (ltOf cfA) s n dk))
   case atStart=>exact⟨20,d2,rfl,Nat.le_refl _,by omega,by omega,hk2,S2,B2⟩
   case round=>
    clear S2 B2 hk2
    obtain⟨s,dk,rfl,hs20,hsn,hg,hk,S1,HB⟩:=hrel
    by_cases hlt:s< n
    ·
     have hltI:(s:Int)< (n:Int):=by omega
     have B3:Hid (PermIn 0 n d dk∧Bl1 (ltOf cfA) (2*s) 0 dk∧Bl3 (ltOf cfA) s 0 n dk):=Lh ⟨HB.out.1,bl_start HB.out.2⟩
     have z2:2*(s:Int)=((2*s:Nat):Int):=by omega
     obtain⟨t,ht⟩:∃t,2*s=t:=⟨_,rfl⟩
     rw[ht]at z2
     have hts:t=s+s:=by omega
     have HT:=Lh (And.intro ht hts)
     have hts2:s+s≤t∧t≤s+s:=by omega
     clear ht hts HB
     go_wp2_with fail
     go_loopg [7,8] (n+t) (fun gg va vb wr=>∃(k a b:Nat) (dk:Array Attr),va= .int .i64 a∧vb= .int .i64 b∧Hid (a=k*(2*s))∧Hid (b=a+t)∧a+t≤b∧b≤a+t∧a≤n∧n+t - a≤gg∧Hid (dk.size=n)∧Aside (SWK encA 2 w0 blk off dk wr)∧Hid (PermIn 0 n d dk∧Bl1 (ltOf cfA) (2*s) k dk∧Bl3 (ltOf cfA) s k n dk))
     case atStart=>exact⟨0,0,t,dk,rfl,by go_num,Lh (by simp),Lh (by omega),by omega,by omega,Nat.zero_le _,by omega,hk,S1,B3⟩
     case round=>
      clear S1 B3 hk
      obtain⟨k,a,b,dk,rfl,rfl,ha,hb,hb1,hb2,han,hg2,hk,S1,HB⟩:=hrel
      obtain⟨m,hm⟩:∃m,a+s=m:=⟨_,rfl⟩
      have zm:(a:Int)+(s:Int)=(m:Int):=by omega
      have hmm:a+s≤m∧m≤a+s:=by omega
      have HMM:=Lh hm
      clear hm
      by_cases hbn:b≤n
      ·
       have hbnI:(b:Int)≤(n:Int):=by omega
       have PR:=Lh (bl_pair HB.out.2.2)
       have HM:=Lh (merge_any (cap:=cap) R HC.out (b - a) dk wr (by have:=hk.out;omega) S1.out (by have:=hk.out;omega) a m b (Nat.le_refl _) (by omega) (by omega) (by have:=hk.out;omega)
        (by have:=PR.out.1;rw[←ha.out,Nat.min_eq_left (by omega),HMM.out]at this;exact this) (by have:=PR.out.2;rw[←ha.out,Nat.min_eq_left (by omega),show a+s+s=b by have:=hb.out;have:=HT.out.2;omega,HMM.out]at this;exact this))
       rw[hk.out]at HM
       go_wp2_with fail
       refine HM.out.mono ?_
       rintro e w3 ⟨rfl,d3,p1,p2,S3⟩
       have HP:=Lh (And.intro p1 p2)
       clear p1 p2
       go_wp2_with fail
       go_roundg (n+t - b)
       case measure=>omega
       case rel=>
        have eb:b=k*(2*s)+2*s:=by rw[hb.out,ha.out,HT.out.1]
        refine⟨k+1,b,b+t,d3,rfl,by go_num,Lh (by rw[eb,Nat.add_mul,Nat.one_mul]),Lh rfl,by omega,by omega,hbn,Nat.le_refl _,Lh (HP.out.1.1.trans hk.out),S3,Lh ⟨?_,?_,?_⟩⟩
        ·
         exact permIn_trans _ _ _ _ _ HB.out.1 (permIn_mono _ _ _ _ _ _ (Nat.zero_le _) hbn (by have:=hk.out;omega) HP.out.1)
        ·
         exact bl_one HB.out.2.1 (by rw[←eb,←ha.out];exact HP.out.1) (by rw[←eb,←ha.out];exact HP.out.2)
        ·
         exact bl_three HB.out.2.2 (by rw[←eb,←ha.out];exact HP.out.1)
      ·
       have hbnI:¬(b:Int)≤(n:Int):=by omega
       have PR:=Lh (bl_pair HB.out.2.2)
       have z2s:(s:Int)*2=(t:Int):=by omega
       by_cases hmn:m< n
       ·
        have hmnI:(m:Int)< (n:Int):=by omega
        have HM:=Lh (merge_any (cap:=cap) R HC.out (n - a) dk wr (by have:=hk.out;omega) S1.out (by have:=hk.out;omega) a m n (Nat.le_refl _) (by omega) (by omega) (by have:=hk.out;omega)
         (by have:=PR.out.1;rw[←ha.out,Nat.min_eq_left (by omega),HMM.out]at this;exact this) (by have:=PR.out.2;rw[←ha.out,Nat.min_eq_right (by omega),HMM.out]at this;exact this))
        rw[hk.out]at HM
        go_wp2_with fail
        refine HM.out.mono ?_
        rintro e w3 ⟨rfl,d3,p1,p2,S3⟩
        have HP:=Lh (And.intro p1 p2)
        clear p1 p2
        go_wp2_with fail
        go_roundg (n - t)
        case measure=>omega
        case rel=>
         refine⟨t,d3,by go_num,by omega,by omega,Nat.le_refl _,Lh (HP.out.1.1.trans hk.out),S3,Lh ⟨?_,?_⟩⟩
         ·
          exact permIn_trans _ _ _ _ _ HB.out.1 (permIn_mono _ _ _ _ _ _ (Nat.zero_le _) (Nat.le_refl _) (by have:=hk.out;omega) HP.out.1)
         ·
          rw[←HT.out.1];exact bl_two HB.out.2.1 (by rw[←ha.out,HT.out.1];omega) (by rw[←ha.out];exact HP.out.1) (by rw[←ha.out];exact HP.out.2)
       ·
        have hmnI:¬(m:Int)< (n:Int):=by omega
        go_wp2_with fail
        go_roundg (n - t)
        case measure=>omega
        case rel=>
         refine⟨t,dk,by go_num,by omega,by omega,Nat.le_refl _,hk,S1,Lh ⟨HB.out.1,?_⟩⟩
         rw[←HT.out.1]
         exact bl_two HB.out.2.1 (by rw[←ha.out,HT.out.1];omega) (permIn_refl _ _ _) (by have:=PR.out.1;rw[←ha.out,Nat.min_eq_right (by omega)]at this;rw[←ha.out];exact this)
    ·
     have hltI:¬(s:Int)< (n:Int):=by omega
     go_wp2_with fail
     refine bodyPost_end (results_none rfl _ _ _) rfl ?_
     exact⟨rfl,dk,HB.out.1,bl_end HB.out.2 (by omega),S1.out⟩
open Go.RowKit
def insK (g:List (Step×Node)) (x:Step×Node):List (Step×Node):=insAt g (g.countP fun y=>aheadB y.1 x.1) x
def sortK (l:List (Step×Node)):List (Step×Node):=l.foldl insK []
def stK (l:List (Step×Node)):List Step:=l.map (·.1)
def ndK (l:List (Step×Node)):List Node:=l.map (·.2)
theorem insK_st (g:List (Step×Node)) (x:Step×Node):stK (insK g x)=insAt (stK g) ((stK g).countP fun y=>aheadB y x.1) x.1:=by
 unfold stK insK
 rw[map_insAt,List.countP_map];rfl
theorem insK_nd (g:List (Step×Node)) (x:Step×Node):ndK (insK g x)=insAt (ndK g) ((stK g).countP fun y=>aheadB y x.1) x.2:=by
 unfold ndK insK stK
 rw[map_insAt,List.countP_map];rfl
theorem insK_perm (g:List (Step×Node)) (x:Step×Node):(insK g x).Perm (g++ [x]):=by
 unfold insK insAt
 generalize g.countP _=n
 exact(List.perm_middle.trans (by rw[List.take_append_drop])).trans (List.perm_append_singleton x g).symm
theorem sortK_snoc (l:List (Step×Node)) (x:Step×Node):sortK (l++ [x])=insK (sortK l) x:=by unfold sortK;rw[List.foldl_append];rfl
theorem foldK_perm:∀(l g:List (Step×Node)),(l.foldl insK g).Perm (g++l)
 | [],g=>by simp
 | x::r,g=>by
  rw[List.foldl_cons]
  exact(foldK_perm r _).trans (((insK_perm g x).append_right r).trans (by simp))
theorem sortK_perm (l:List (Step×Node)):(sortK l).Perm l:=by have:=foldK_perm l [];rwa [List.nil_append]at this
theorem foldK_rise:∀(l g:List (Step×Node)),Rising (stK g)→(stK (g++l)).Nodup→Rising (stK (l.foldl insK g))
 | [],g,h,_=>h
 | x::r,g,h,hn=>by
  rw[List.foldl_cons]
  have hx:x.1∉stK g:=by
   intro hm
   unfold stK at hn hm
   rw[List.map_append,List.nodup_append]at hn
   exact hn.2.2 x.1 hm x.1 (by simp) rfl
  refine foldK_rise r _ ?_ ?_
  ·
   rw[insK_st,countP_pos _ _ h];exact stepPos_new _ _ h hx
  ·
   have hp:(stK (insK g x++r)).Perm (stK (g++x::r)):=List.Perm.map _ (((insK_perm g x).append_right r).trans (by simp))
   exact hp.nodup_iff.2 hn
theorem sortK_rise (l:List (Step×Node)) (h:(stK l).Nodup):Rising (stK (sortK l)):=foldK_rise l [] (by simp[stK,Rising]) (by simpa using h)
theorem sortK_uniq {l m:List (Step×Node)} (h:(stK l).Nodup) (hp:m.Perm l) (hs:Rising (stK m)):m=sortK l:=by
 have h1:=sortK_rise l h
 unfold Rising stK at h1 hs
 rw[List.pairwise_map]at h1 hs
 refine List.Perm.eq_of_pairwise (fun a b _ _ k1 k2=> ?_) hs h1 (hp.trans (sortK_perm l).symm)
 rw[aheadB_asymm _ _ k1]at k2;cases k2
theorem sortK_eq {l m:List (Step×Node)} (h:(stK l).Nodup) (hp:m.Perm l):sortK m=sortK l:=
 sortK_uniq h ((sortK_perm m).trans hp) (sortK_rise m ((List.Perm.map _ hp).nodup_iff.2 h))
def childP (l:List Rule) (k:Node) (path:List Bytes) (at':Int):(Int×Int) ⊕ (Step×Node):=
 if findS path l 0< 0 then .inl (24,at')
 else if(normN l k path at').2.1≠0 then .inl (normN l k path at').2
 else match keyS (normN l k path at').1 (l.getD (findS path l 0).toNat noRule).keys with
  | none=> .inl (22,at')
  | some key=> .inr (⟨k.name,key⟩,(normN l k path at').1)
def kidsP (l:List Rule) (path:List Bytes) (own:Int):List Node→Int→List (Step×Node)→(Int×Int) ⊕ List (Step×Node)
 | [],_,acc=> .inr acc
 | k::r,at',acc=>
  if k.kind=2∧trimB k.text≠ []then .inl (24,own)
  else if k.kind≠1 then kidsP l path own r at' acc
  else match childP l k (path++ [k.name]) at' with
   | .inl e=> .inl e
   | .inr x=>if acc.any (fun y=>stepB y.1 x.1)=true then .inl (23,at')else kidsP l path own r (at'+elemsN k) (acc++ [x])
def outK (nm:Bytes) (la:List Attr):(Int×Int) ⊕ List (Step×Node)→Node×Int×Int
 | .inl e=>(zeroN,e)
 | .inr g=>(.mk 1 nm [] la (ndK (sortK g)),0,0)
theorem normL_kids (l:List Rule) (nm:Bytes) (la:List Attr) (path:List Bytes) (first:Int):∀(ks:List Node) (at':Int) (acc:List (Step×Node)),
  normL l ks nm la path first (stK (sortK acc)) (ndK (sortK acc)) at'=outK nm la (kidsP l path first ks at' acc)
 | [],at',acc=>by rw[normL,kidsP];rfl
 | k::r,at',acc=>by
  rw[normL,kidsP]
  by_cases h1:k.kind=2∧trimB k.text≠ []
  ·
   rw[if_pos h1,if_pos h1];rfl
  ·
   rw[if_neg h1,if_neg h1]
   by_cases h2:k.kind≠1
   ·
    rw[if_pos h2,if_pos h2];exact normL_kids l nm la path first r at' acc
   ·
    rw[if_neg h2,if_neg h2]
    unfold childP
    by_cases h3:findS (path++ [k.name]) l 0< 0
    ·
     rw[if_pos h3,if_pos h3];rfl
    ·
     rw[if_neg h3,if_neg h3]
     by_cases h4:(normN l k (path++ [k.name]) at').2.1≠0
     ·
      rw[if_pos h4,if_pos h4];rfl
     ·
      rw[if_neg h4,if_neg h4]
      cases keyS (normN l k (path++ [k.name]) at').1 (l.getD (findS (path++ [k.name]) l 0).toNat noRule).keys with
      | none=>rfl
      | some key=>
       simp only
       have ha:((stK (sortK acc)).any fun s=>stepB s ⟨k.name,key⟩)=acc.any fun y=>stepB y.1 ⟨k.name,key⟩:=by
        unfold stK
        rw[List.any_map]
        exact(sortK_perm acc).any_eq
       rw[ha]
       cases acc.any fun y=>stepB y.1 ⟨k.name,key⟩with
       | true=>rw[if_pos rfl,if_pos rfl];rfl
       | false=>
        rw[if_neg (by simp),if_neg (by simp),←insK_st (sortK acc) (⟨k.name,key⟩,(normN l k (path++ [k.name]) at').1),←insK_nd (sortK acc) (⟨k.name,key⟩,(normN l k (path++ [k.name]) at').1),←sortK_snoc]
        exact normL_kids l nm la path first r (at'+elemsN k) _
theorem normN_kids (l:List Rule) (a:Node) (path:List Bytes) (first:Int) (h:frontS l path=false):normN l a path first=outK a.name (sortA [] a.attrs) (kidsP l path first a.kids (first+1) []):=by
 rw[normN_eq,h,if_neg (by simp)]
 exact normL_kids l a.name _ path first a.kids (first+1) []
def itemV (l:List Rule) (path:List Bytes) (k:Node):Step×Node:=(⟨k.name,(keyS (normN l k (path++ [k.name]) 0).1 (l.getD (findS (path++ [k.name]) l 0).toNat noRule).keys).getD []⟩,(normN l k (path++ [k.name]) 0).1)
mutual
theorem normN_at (l:List Rule):∀(a:Node) (path:List Bytes) (f f':Int),(normN l a path f).2.1=0→normN l a path f'=normN l a path f
 | .mk k nm tx la ks,path,f,f',h=>by
  rw[normN]at h⊢
  rw[normN]
  split at h
  ·
   rename_i hf;rw[if_pos hf,if_pos hf]
  ·
   rename_i hf;rw[if_neg hf,if_neg hf];exact normL_at l ks nm _ path f f' [] [] _ _ h
theorem normL_at (l:List Rule):∀(ks:List Node) (nm:Bytes) (la:List Attr) (path:List Bytes) (f f':Int) (steps:List Step) (out:List Node) (a a':Int),
  (normL l ks nm la path f steps out a).2.1=0→normL l ks nm la path f' steps out a'=normL l ks nm la path f steps out a
 | [],nm,la,path,f,f',steps,out,a,a',_=>by rw[normL,normL]
 | k::r,nm,la,path,f,f',steps,out,a,a',h=>by
  rw[normL]at h⊢
  rw[normL]
  split at h
  ·
   simp at h
  ·
   rename_i h1
   rw[if_neg h1,if_neg h1]
   split at h
   ·
    rename_i h2;rw[if_pos h2,if_pos h2];exact normL_at l r nm la path f f' steps out a a' h
   ·
    rename_i h2
    rw[if_neg h2,if_neg h2]
    split at h
    ·
     simp at h
    ·
     rename_i h3
     rw[if_neg h3,if_neg h3]
     split at h
     ·
      rename_i h4;exact absurd h h4
     ·
      rename_i h4
      have h4':(normN l k (path++ [k.name]) a).2.1=0:=by omega
      rw[normN_at l k (path++ [k.name]) a a' h4',if_neg h4,if_neg h4]
      split at h
      ·
       simp at h
      ·
       rename_i key hk
       split at h
       ·
        simp at h
       ·
        rename_i h5;rw[if_neg h5,if_neg h5];exact normL_at l r nm la path f f' _ _ _ _ h
end
def OkC (l:List Rule) (path:List Bytes) (k:Node):Prop:=(k.kind=2→trimB k.text= [])∧(k.kind=1→¬findS (path++ [k.name]) l 0< 0∧(normN l k (path++ [k.name]) 0).2.1=0∧(keyS (normN l k (path++ [k.name]) 0).1 (l.getD (findS (path++ [k.name]) l 0).toNat noRule).keys).isSome=true)
def elK (ks:List Node):List Node:=ks.filter fun k=>decide (k.kind=1)
theorem kidsP_ok (l:List Rule) (path:List Bytes) (own:Int):∀(ks:List Node) (at':Int) (acc g:List (Step×Node)),(stK acc).Nodup→
  (kidsP l path own ks at' acc= .inr g↔(∀k∈ks,OkC l path k)∧(stK (acc++(elK ks).map (itemV l path))).Nodup∧g=acc++(elK ks).map (itemV l path))
 | [],at',acc,g,ha=>by
  rw[kidsP]
  simp only[elK,List.filter_nil,List.map_nil,List.append_nil,Sum.inr.injEq]
  exact⟨fun h=>⟨by simp,ha,h.symm⟩,fun h=>h.2.2.symm⟩
 | k::r,at',acc,g,ha=>by
  rw[kidsP]
  by_cases h1:k.kind=2∧trimB k.text≠ []
  ·
   rw[if_pos h1]
   exact⟨fun h=>(by cases h),fun h=>absurd ((h.1 k (by simp)).1 h1.1) h1.2⟩
  ·
   rw[if_neg h1]
   by_cases h2:k.kind≠1
   ·
    rw[if_pos h2,kidsP_ok l path own r at' acc g ha]
    have e:elK (k::r)=elK r:=by unfold elK;rw[List.filter_cons_of_neg (by simpa using h2)]
    have ok:OkC l path k:=⟨fun h=>Classical.byContradiction fun e=>h1 ⟨h,e⟩,fun h=>absurd h h2⟩
    rw[e]
    exact⟨fun h=>⟨fun x hx=>by rcases List.mem_cons.1 hx with rfl | hx;exact ok;exact h.1 x hx,h.2⟩,fun h=>⟨fun x hx=>h.1 x (List.mem_cons_of_mem _ hx),h.2⟩⟩
   ·
    have h2':k.kind=1:=by omega
    rw[if_neg h2]
    have e:elK (k::r)=k::elK r:=by unfold elK;rw[List.filter_cons_of_pos (by simpa using h2')]
    rw[e,List.map_cons]
    unfold childP
    by_cases h3:findS (path++ [k.name]) l 0< 0
    ·
     rw[if_pos h3];exact⟨fun h=>(by cases h),fun h=>absurd h3 ((h.1 k (by simp)).2 h2').1⟩
    ·
     rw[if_neg h3]
     by_cases h4:(normN l k (path++ [k.name]) at').2.1≠0
     ·
      rw[if_pos h4]
      exact⟨fun h=>(by cases h),fun h=>by
       have q:=((h.1 k (by simp)).2 h2').2.1
       rw[normN_at l k _ 0 at' q]at h4;exact absurd q h4⟩
     ·
      rw[if_neg h4]
      have h4':(normN l k (path++ [k.name]) at').2.1=0:=by omega
      have hn:=normN_at l k _ at' 0 h4'
      have hi:itemV l path k=(⟨k.name,(keyS (normN l k (path++ [k.name]) at').1 (l.getD (findS (path++ [k.name]) l 0).toNat noRule).keys).getD []⟩,(normN l k (path++ [k.name]) at').1):=by unfold itemV;rw[hn]
      cases hk:keyS (normN l k (path++ [k.name]) at').1 (l.getD (findS (path++ [k.name]) l 0).toNat noRule).keys with
      | none=>
       refine⟨fun h=>(by cases h),fun h=> ?_⟩
       have q:=((h.1 k (by simp)).2 h2').2.2
       rw[hn,hk]at q;cases q
      | some key=>
       simp only
       rw[hk,Option.getD_some]at hi
       have ok:OkC l path k:=⟨fun h=>(by omega),fun _=>⟨h3,by rw[hn];exact h4',by rw[hn,hk];rfl⟩⟩
       rw[hi]
       cases hy:acc.any fun y=>stepB y.1 ⟨k.name,key⟩with
       | true=>
        rw[if_pos rfl]
        refine⟨fun h=>(by cases h),fun h=> ?_⟩
        obtain⟨y,hm,hb⟩:=List.any_eq_true.1 hy
        have hn2:=h.2.1
        unfold stK at hn2
        rw[List.map_append,List.nodup_append]at hn2
        exact absurd ((stepB_iff _ _).1 hb) (hn2.2.2 _ (List.mem_map.2 ⟨y,hm,rfl⟩) _ (by simp))
       | false=>
        rw[if_neg (by simp)]
        have hna:(stK (acc++ [(⟨k.name,key⟩,(normN l k (path++ [k.name]) at').1)])).Nodup:=by
         unfold stK
         rw[List.map_append,List.nodup_append]
         refine⟨ha,by simp,fun a hm b hb=> ?_⟩
         simp at hb
         subst hb
         intro e2
         obtain⟨y,hy2,e3⟩:=List.mem_map.1 hm
         have:=List.any_eq_false.1 hy y hy2
         exact this ((stepB_iff _ _).2 (e3.trans e2))
        rw[kidsP_ok l path own r (at'+elemsN k) _ g hna]
        simp only[List.append_assoc,List.singleton_append]
        exact⟨fun h=>⟨fun x hx=>by rcases List.mem_cons.1 hx with rfl | hx;exact ok;exact h.1 x hx,h.2⟩,fun h=>⟨fun x hx=>h.1 x (List.mem_cons_of_mem _ hx),h.2⟩⟩
theorem mk_name (k:Int) (n t:Bytes) (a:List Attr) (c:List Node):(Node.mk k n t a c).name=n:=rfl
theorem mk_attrs (k:Int) (n t:Bytes) (a:List Attr) (c:List Node):(Node.mk k n t a c).attrs=a:=rfl
theorem mk_kids (k:Int) (n t:Bytes) (a:List Attr) (c:List Node):(Node.mk k n t a c).kids=c:=rfl
theorem attrPos_cons (a b:Attr) (r:List Attr):attrPos a (b::r)=if lessB a.n b.n=true then 0 else attrPos a r+1:=by
 unfold attrPos;rw[List.findIdx_cons];cases lessB a.n b.n<;> rfl
def RiseA (l:List Attr):Prop:=l.Pairwise fun a b=>lessB a.n b.n=true
theorem attrPos_rise (a:Attr):∀out:List Attr,RiseA out→(∀b∈out,b.n≠a.n)→RiseA (insAt out (attrPos a out) a)
 | [],_,_=>by simp[insAt,attrPos,RiseA]
 | b::r,h,hn=>by
  rw[attrPos_cons]
  have hb:=hn b (by simp)
  unfold RiseA at h⊢
  rw[List.pairwise_cons]at h
  by_cases hl:lessB a.n b.n=true
  ·
   rw[if_pos hl,insAt_zero,List.pairwise_cons]
   refine⟨fun c hc=> ?_,List.pairwise_cons.2 h⟩
   rcases List.mem_cons.1 hc with rfl | hc
   ·
    exact hl
   ·
    exact lessB_trans _ _ _ hl (h.1 c hc)
  ·
   rw[if_neg hl,insAt_cons,List.pairwise_cons]
   have hba:=lessB_total _ _ (Ne.symm hb) (by simpa using hl)
   refine⟨fun c hc=> ?_,attrPos_rise a r h.2 fun c hc=>hn c (List.mem_cons_of_mem _ hc)⟩
   rcases (mem_insAt _ _ _ _).1 hc with rfl | hc
   ·
    exact hba
   ·
    exact h.1 c hc
theorem insAt_perm' {α:Type} (l:List α) (n:Nat) (x:α):(insAt l n x).Perm (x::l):=by
 unfold insAt
 exact List.perm_middle.trans (by rw[List.take_append_drop])
theorem sortA_perm':∀(l out:List Attr),(sortA out l).Perm (out++l)
 | [],out=>by rw[sortA];simp
 | a::r,out=>by
  rw[sortA]
  exact(sortA_perm' r _).trans (((insAt_perm' out _ a).append_right r).trans (List.perm_middle.symm))
theorem sortA_rise:∀(l out:List Attr),RiseA out→((out++l).map (·.n)).Nodup→RiseA (sortA out l)
 | [],out,h,_=>by rw[sortA];exact h
 | a::r,out,h,hn=>by
  rw[sortA]
  refine sortA_rise r _ (attrPos_rise a out h fun b hb e=> ?_) ?_
  ·
   rw[List.map_append,List.nodup_append]at hn
   exact hn.2.2 b.n (List.mem_map.2 ⟨b,hb,rfl⟩) a.n (by simp) e
  ·
   exact(List.Perm.map _ (((insAt_perm' out _ a).append_right r).trans List.perm_middle.symm)).nodup_iff.2 hn
theorem sortA_uniq {l m:List Attr} (h:(l.map (·.n)).Nodup) (hp:m.Perm l) (hs:RiseA m):m=sortA [] l:=by
 refine List.Perm.eq_of_pairwise (fun a b _ _ k1 k2=> ?_) hs (sortA_rise l [] (by simp[RiseA]) (by simpa using h)) (hp.trans (by have:=(sortA_perm' l []).symm;rwa [List.nil_append]at this))
 have k3:=lessB_trans _ _ _ k1 k2
 rw[lessB_irrefl]at k3;cases k3
theorem sortA_rev {l:List Attr} (h:(l.map (·.n)).Nodup):sortA [] l.reverse=sortA [] l:=by
 have hp:=List.reverse_perm l
 exact sortA_uniq h (by have:=sortA_perm' l.reverse [];rw[List.nil_append]at this;exact this.trans hp) (sortA_rise _ _ (by simp[RiseA]) (by rw[List.nil_append];exact(List.Perm.map _ hp).nodup_iff.2 h))
def cmN:Node:= .mk 3 [] [99] [] []
mutual
def mixN (l:List Rule):Node→List Bytes→Node
 | .mk k nm tx la ks,path=>if findS path l 0< 0∨frontS l path=true then .mk k nm tx la.reverse (mixF l ks)else .mk k nm tx la.reverse (mixK l ks path)
def mixF (l:List Rule):List Node→List Node
 | []=> []
 | k::r=>mixN l k []::mixF l r
def mixK (l:List Rule):List Node→List Bytes→List Node
 | [],_=> []
 | k::r,path=>mixK l r path++ [cmN,mixN l k (path++ [k.name])]
end
theorem mixN_eq (l:List Rule) (n:Node) (path:List Bytes):mixN l n path= .mk n.kind n.name n.text n.attrs.reverse (if findS path l 0< 0∨frontS l path=true then mixF l n.kids else mixK l n.kids path):=by
 cases n;rw[mixN];split<;> rfl
mutual
def ndN:Node→Prop
 | .mk _ _ _ la ks=>(la.map (·.n)).Nodup∧ndL ks
def ndL:List Node→Prop
 | []=>True
 | k::r=>ndN k∧ndL r
end
theorem ndN_eq (n:Node):ndN n↔(n.attrs.map (·.n)).Nodup∧ndL n.kids:=by cases n;rw[ndN];rfl
theorem ndL_mem:∀(ks:List Node) (k:Node),ndL ks→k∈ks→ndN k
 | x::r,k,h,hm=>by
  rw[ndL]at h
  rcases List.mem_cons.1 hm with rfl | hm
  ·
   exact h.1
  ·
   exact ndL_mem r k h.2 hm
mutual
theorem mix_cont (l:List Rule) (h0:findS [] l 0< 0):∀n:Node,ndN n→contN (mixN l n [])=contN n
 | .mk k nm tx la ks,h=>by
  rw[ndN]at h
  rw[mixN,if_pos (.inl h0),contN,contN,sortA_rev h.1,mix_contL l h0 ks h.2]
theorem mix_contL (l:List Rule) (h0:findS [] l 0< 0):∀ks:List Node,ndL ks→contL (mixF l ks)=contL ks
 | [],_=>by rw[mixF]
 | k::r,h=>by
  rw[ndL]at h
  rw[mixF,contL,contL,mix_cont l h0 k h.1,mix_contL l h0 r h.2]
end
theorem kidsP_err (l:List Rule) (path:List Bytes) (own:Int):∀(ks:List Node) (at':Int) (acc:List (Step×Node)) (e:Int×Int),kidsP l path own ks at' acc= .inl e→e.1≠0
 | [],at',acc,e,h=>by rw[kidsP]at h;cases h
 | k::r,at',acc,e,h=>by
  rw[kidsP]at h
  split at h
  ·
   cases h;simp
  ·
   split at h
   ·
    exact kidsP_err l path own r _ _ e h
   ·
    split at h
    ·
     rename_i e' he
     cases h
     unfold childP at he
     split at he
     ·
      cases he;simp
     ·
      split at he
      ·
       rename_i hc;cases he;exact hc
      ·
       split at he
       ·
        cases he;simp
       ·
        cases he
    ·
     split at h
     ·
      cases h;simp
     ·
      exact kidsP_err l path own r _ _ e h
theorem elK_mix (l:List Rule) (path:List Bytes):∀ks:List Node,elK (mixK l ks path)=((elK ks).map fun k=>mixN l k (path++ [k.name])).reverse
 | []=>by rw[mixK];rfl
 | k::r=>by
  have ih:=elK_mix l path r
  unfold elK at ih⊢
  rw[mixK,List.filter_append,ih]
  have hk:(mixN l k (path++ [k.name])).kind=k.kind:=by rw[mixN_eq];rfl
  by_cases h:k.kind=1
  ·
   rw[List.filter_cons_of_neg (by decide),List.filter_cons_of_pos (by rw[hk];simpa using h),List.filter_cons_of_pos (by simpa using h)]
   simp
  ·
   rw[List.filter_cons_of_neg (by decide),List.filter_cons_of_neg (by rw[hk];simpa using h),List.filter_cons_of_neg (by simpa using h)]
   simp
theorem mixK_mem (l:List Rule) (path:List Bytes):∀(ks:List Node) (x:Node),x∈mixK l ks path→x=cmN∨∃k∈ks,x=mixN l k (path++ [k.name])
 | [],x,h=>by rw[mixK]at h;cases h
 | k::r,x,h=>by
  rw[mixK]at h
  rcases List.mem_append.1 h with h | h
  ·
   rcases mixK_mem l path r x h with e | ⟨y,hy,e⟩
   ·
    exact .inl e
   ·
    exact .inr ⟨y,List.mem_cons_of_mem _ hy,e⟩
  ·
   simp only[List.mem_cons,List.not_mem_nil,or_false]at h
   rcases h with e | e
   ·
    exact .inl e
   ·
    exact .inr ⟨k,by simp,e⟩
theorem mix_norm (l:List Rule) (h0:findS [] l 0< 0):∀(N:Nat) (n:Node) (path:List Bytes) (f f':Int),nsz n≤N→ndN n→¬findS path l 0< 0→(normN l n path f).2.1=0→normN l (mixN l n path) path f'=normN l n path f:=by
 intro N
 induction N with
 | zero=>intro n path f f' hN;have:=nsz_pos n;omega
 | succ N ih=>
  intro n path f f' hN hd hf hc
  rw[ndN_eq]at hd
  cases hfr:frontS l path with
  | true=>
   rw[mixN_eq,if_pos (.inr hfr),normN_eq,normN_eq,if_pos hfr,if_pos hfr]
   rw[mk_name,mk_attrs,mk_kids]
   rw[sortA_rev hd.1,mix_contL l h0 _ hd.2]
  | false=>
   rw[mixN_eq,if_neg (by rw[hfr];simp[hf])]
   rw[normN_kids l n path f hfr]at hc⊢
   rw[normN_kids l _ path f' hfr]
   rw[mk_name,mk_attrs,mk_kids]
   rw[sortA_rev hd.1]
   cases hk:kidsP l path f n.kids (f+1) []with
   | inl e=>rw[hk]at hc;exact absurd hc (kidsP_err l path f n.kids _ _ e hk)
   | inr g=>
    obtain⟨h1,h2,h3⟩:=(kidsP_ok l path f n.kids (f+1) [] g (by simp[stK])).1 hk
    rw[List.nil_append]at h2 h3
    have hm:∀k∈n.kids,k.kind=1→normN l (mixN l k (path++ [k.name])) (path++ [k.name]) 0=normN l k (path++ [k.name]) 0:=fun k hk k1=>
     ih k (path++ [k.name]) 0 0 (by have:=nsz_mem n k hk;omega) (ndL_mem _ k hd.2 hk) ((h1 k hk).2 k1).1 ((h1 k hk).2 k1).2.1
    have hiv:(elK (mixK l n.kids path)).map (itemV l path)=((elK n.kids).map (itemV l path)).reverse:=by
     rw[elK_mix,List.map_reverse,List.map_map]
     congr 1
     refine List.map_congr_left fun k hk=> ?_
     unfold elK at hk
     rw[List.mem_filter]at hk
     have e:=hm k hk.1 (by simpa using hk.2)
     have en:(mixN l k (path++ [k.name])).name=k.name:=by rw[mixN_eq];rfl
     simp only[Function.comp,itemV]
     rw[en,e]
    have hp:((elK (mixK l n.kids path)).map (itemV l path)).Perm ((elK n.kids).map (itemV l path)):=by rw[hiv];exact List.reverse_perm _
    have hok:kidsP l path f' (mixK l n.kids path) (f'+1) []= .inr ((elK (mixK l n.kids path)).map (itemV l path)):=by
     refine(kidsP_ok l path f' _ (f'+1) [] _ (by simp[stK])).2 ⟨fun x hx=> ?_,?_,rfl⟩
     ·
      rcases mixK_mem l path _ x hx with rfl | ⟨k,hk,rfl⟩
      ·
       exact⟨fun e=>(by cases e),fun e=>(by cases e)⟩
      ·
       have e1:(mixN l k (path++ [k.name])).kind=k.kind:=by rw[mixN_eq];rfl
       have e2:(mixN l k (path++ [k.name])).text=k.text:=by rw[mixN_eq];rfl
       have e3:(mixN l k (path++ [k.name])).name=k.name:=by rw[mixN_eq];rfl
       refine⟨fun e=>by rw[e2];exact(h1 k hk).1 (e1.symm.trans e),fun e=> ?_⟩
       rw[e1]at e
       rw[e3,hm k hk e]
       exact(h1 k hk).2 e
     ·
      rw[List.nil_append];exact(List.Perm.map _ hp).nodup_iff.2 h2
    rw[hok,h3]
    unfold outK
    simp only
    rw[sortK_eq h2 hp]
theorem compare_any (a b:Bytes) (w:World):Calls Tryz.prog 81 #[.string (bs a),.string (bs b)] w fun e w'=>e= .returned (.int .i64 (Lib.compareBytes a b))∧w'=w:=Tryz.strings_Compare (bs a) (bs b) w
theorem cmpA_any (x y:Attr) (W:World):Calls Tryz.prog 80 #[.agg #[.string (bs x.n),.string (bs x.v)],.agg #[.string (bs y.n),.string (bs y.v)]] W fun e w'=>e= .returned (.int .i64 (cfA x y))∧∃q os',w'=grow (W.drewN q) os':=by
 have HC:=Lh fun W=>compare_any x.n y.n W
 go_enter Tryz.func80,Tryz.ntmps80
 go_wp2_with fail
 refine(HC.out _).mono ?_
 rintro e w1 ⟨rfl,rfl⟩
 go_wp2_with fail
 go_ret
 exact⟨rfl,0,#[_]++ #[_],by rw[alloc_eq_grow,alloc_eq_grow,grow_grow];rfl⟩
theorem cmp_lays (blk size:Nat) (w:World):CmpLays Tryz.prog 80 #[] encA 2 cfA blk 0 size w:=fun m os dk _ x y=>cmpA_any x y _
theorem flatA_list (d:Array Attr):(flatK encA 2 d).toList=d.toList.flatMap encA:=by
 refine List.ext_getElem? fun j=> ?_
 have hlen:∀L:List Attr,(L.flatMap encA).length=L.length*2:=fun L=>by
  induction L with
  | nil=>rfl
  | cons a r ih=>rw[List.flatMap_cons,List.length_append,ih,List.length_cons,Nat.add_mul];simp[encA];omega
 have hget:∀(L:List Attr) (i c:Nat) (h:i< L.length),c< 2→(L.flatMap encA)[i*2+c]? =(encA L[i])[c]? :=fun L=>by
  induction L with
  | nil=>intro i c h;cases h
  | cons a r ih=>
   intro i c h hc
   rw[List.flatMap_cons]
   cases i with
   | zero=>rw[Nat.zero_mul,Nat.zero_add,List.getElem?_append_left (by simpa [encA]using hc)];rfl
   | succ i=>rw[List.getElem?_append_right (by simp[encA];omega),show(i+1)*2+c - (encA a).length=i*2+c by simp[encA];omega,ih i c (by simpa using h) hc];rfl
 by_cases hj:j< d.size*2
 ·
  have hi2:j / 2< d.size:=by omega
  have hf:=get_flatK encA 2 d j hj
  rw[getElem!_pos d (j / 2) hi2,getElem!_pos _ j (by rw[size_flatK];exact hj)]at hf
  have h1:=hget d.toList (j / 2) (j % 2) (by simpa using hi2) (by omega)
  rw[show j / 2*2+j % 2=j by omega]at h1
  rw[h1,Array.getElem?_toList,Array.getElem?_eq_getElem (by rw[size_flatK];exact hj),hf,Array.getElem_toList]
  have h2:j % 2< (encA d[j / 2]).length:=by simp[encA];omega
  rw[List.getElem?_eq_getElem h2,getElem!_pos (encA d[j / 2]) (j % 2) h2]
 ·
  rw[List.getElem?_eq_none (by rw[Array.length_toList,size_flatK];omega),List.getElem?_eq_none (by rw[hlen,Array.length_toList];omega)]
theorem attrD_map (l:List Attr):l.flatMap attrC=(l.flatMap encA).map DV.v:=by
 induction l with
 | nil=>rfl
 | cons a r ih=>rw[List.flatMap_cons,List.flatMap_cons,List.map_append,ih];rfl
theorem reps_v {w:World} {p:Nat→Prop} {us X:List Value} (h:Reps w p us (X.map DV.v)):us=X:=by
 refine List.ext_getElem? fun k=> ?_
 by_cases hk:k< us.length
 ·
  have hx:k< X.length:=by have:=h.1;rw[List.length_map]at this;omega
  have:=h.2 k us[k] (.v X[k]) (List.getElem?_eq_getElem hk) (by rw[List.getElem?_map,List.getElem?_eq_getElem hx];rfl)
  rw[List.getElem?_eq_getElem hk,List.getElem?_eq_getElem hx,this.is]
 ·
  have hx:¬k< X.length:=by have:=h.1;rw[List.length_map]at this;omega
  rw[List.getElem?_eq_none (by omega),List.getElem?_eq_none (by omega)]
theorem _root_.Go.Proofs.SWK.grew {w W:World} {g:Nat} {d:Array Attr} (h:SWK encA 2 w g 0 d W):w.grownBy W (some g):=by
 obtain⟨n,os,rfl⟩:=h
 unfold sortWorldK putRowK
 refine⟨rfl,rfl,rfl,by simp,fun k hk hne=> ?_⟩
 rw[heap_grow_old _ _ (by simpa using hk)]
 have:g≠k:=fun e=>hne (by rw[e])
 simp[putRow,mapBlock,ahead,Array.getElem?_modify,this]
theorem ssf_any (d:Array Attr) (w:World) (blk cap:Nat) (R:RowK encA 2 w blk 0 d) (hsz:d.size≤16777216):
  Calls Tryz.prog 79 #[.slice (some ⟨blk,0,none⟩) d.size cap,.func (.func 80) #[] #[]] w fun e w'=>e= .returned (.tuple #[])∧∃d',PermIn 0 d.size d d'∧SortedIn (ltOf cfA) 0 d.size d'∧SWK encA 2 w blk 0 d' w':=by
 have HS:=Lh (stable_any d d w w blk 0 cap R rfl (SWK.start R.hH) hsz (cmp_lays blk d.size w))
 go_enter Tryz.func79,Tryz.ntmps79
 go_wp2_with fail
 refine HS.out.mono ?_
 rintro e w2 ⟨rfl,d',h⟩
 go_wp2_with fail
 refine bodyPost_end (results_none rfl _ _ _) rfl ?_
 exact⟨rfl,d',h⟩
theorem ins_nil (a:Option Addr) (cap:Nat) (f:Value) (w:World):Calls Tryz.prog 165 #[.slice a 0 cap,.int .i64 0,.int .i64 0,f] w fun e w'=>e= .returned (.tuple #[])∧w'=w:=by
 go_enter Tryz.func165,Tryz.ntmps165
 go_wp2_with fail
 go_loopg [8] 0 (fun gg v wr=>v= .int .i64 1∧wr=w)
 case atStart=>exact⟨rfl,rfl⟩
 case round=>
  obtain⟨rfl,rfl⟩:=hrel
  go_wp2_with fail
  refine bodyPost_end (results_none rfl _ _ _) rfl ?_
  exact⟨rfl,rfl⟩
theorem stable_nil (a:Option Addr) (cap:Nat) (f:Value) (w:World):Calls Tryz.prog 123 #[.slice a 0 cap,.int .i64 0,f] w fun e w'=>e= .returned (.tuple #[])∧w'=w:=by
 have HI:=Lh fun w=>ins_nil a cap f w
 go_enter Tryz.func123,Tryz.ntmps123
 go_wp2_with fail
 go_loopg [7,8] 0 (fun gg va vb wr=>va= .int .i64 0∧vb= .int .i64 20∧wr=w)
 case atStart=>exact⟨rfl,rfl,rfl⟩
 case round=>
  obtain⟨rfl,rfl,rfl⟩:=hrel
  go_wp2_with fail
  refine(HI.out _).mono ?_
  rintro e w2 ⟨rfl,rfl⟩
  go_wp2_with fail
  go_loopg [6] 0 (fun gg va wr=>va= .int .i64 20∧wr=w2)
  case atStart=>exact⟨rfl,rfl⟩
  case round=>
   obtain⟨rfl,rfl⟩:=hrel
   go_wp2_with fail
   refine bodyPost_end (results_none rfl _ _ _) rfl ?_
   exact⟨rfl,rfl⟩
theorem ssf_nil (a:Option Addr) (cap:Nat) (w:World):Calls Tryz.prog 79 #[.slice a 0 cap,.func (.func 80) #[] #[]] w fun e w'=>e= .returned (.tuple #[])∧w'=w:=by
 have HI:=Lh fun w=>stable_nil a cap (.func (.func 80) #[] #[]) w
 go_enter Tryz.func79,Tryz.ntmps79
 go_wp2_with fail
 refine(HI.out _).mono ?_
 rintro e w2 ⟨rfl,rfl⟩
 go_wp2_with fail
 refine bodyPost_end (results_none rfl _ _ _) rfl ?_
 exact⟨rfl,rfl⟩
theorem rep_empty {w:World} {p q:Nat→Prop} {v:Value} {z:Nat} (h:Rep w p v (.s z [])):Rep w q v (.s z []):=by
 cases h with
 | nil=>exact .nil z
 | emp ad=>exact .emp ad z
 | row b off len cap _ us _ hok hl hu hcap hm hc hr=>
  have h0:us= []:=List.eq_nil_of_length_eq_zero (by rw[hu,←hl];rfl)
  subst h0
  exact .row b off len cap z [] [] (fun h=>absurd h (by simp)) hl hu hcap hm (fun k u h=>by simp at h) (fun k u e h=>by simp at h)
theorem flatA_get (l:List Attr) (j:Nat) (hj:j< l.length*2):(l.flatMap encA)[j]? =some (flatK encA 2 l.toArray)[j]! :=by
 have h:=flatA_list l.toArray
 rw[show l.toArray.toList=l from rfl]at h
 rw[←h,Array.getElem?_toList,Array.getElem?_eq_getElem (by rw[size_flatK];simpa using hj),getElem!_pos _ j (by rw[size_flatK];simpa using hj)]
theorem sorted_rise {l m:List Attr} (hp:m.Perm l) (hn:(l.map (·.n)).Nodup) (hs:∀i j (hi:i< m.length) (hj:j< m.length),i< j→lessB m[j].n m[i].n=false):m=sortA [] l:=by
 refine sortA_uniq hn hp ?_
 have hnm:(m.map (·.n)).Nodup:=(hp.map _).nodup_iff.2 hn
 unfold RiseA
 rw[List.pairwise_iff_getElem]
 intro i j hi hj hij
 refine lessB_total _ _ (fun e=> ?_) (hs i j hi hj hij)
 have h2:=List.pairwise_iff_getElem.1 hnm i j (by simpa using hi) (by simpa using hj) hij
 exact h2 (by simpa using e.symm)
theorem rising_any (l:List Attr) (hnd:(l.map (·.n)).Nodup) (p:Nat→Prop) (v:Value) (w:World) (hl:l.length≤16777216) (h:Rep w p v (attrsD l)):
  Calls Tryz.prog 42 #[v] w fun e w'=>Ret (fun b=>w.heap.size≤b) (attrsD (sortA [] l)) e w'∧Ext w w':=by
 have HC:=Lh (cloneat_own l p v w hl h)
 obtain⟨R,hR⟩:∃R,sortA [] l=R:=⟨_,rfl⟩
 rw[hR]
 go_enter Tryz.func42,Tryz.ntmps42
 go_wp2_with fail
 refine HC.out.mono ?_
 rintro e w1 ⟨⟨u,rfl,hu⟩,hX1⟩
 obtain⟨us,hr,hus⟩:=hu
 rw[attrD_map]at hus
 obtain rfl:=reps_v hus
 by_cases h0:l= []
 ·
  subst h0
  obtain rfl:R= []:=by rw[←hR];rfl
  obtain⟨a,cap,rfl,_,_⟩:=Own.form ⟨_,hr,hus⟩
  simp only[List.length_nil]at*
  have HI:=Lh fun w=>ssf_nil a cap w
  go_wp2_with fail
  refine(HI.out _).mono ?_
  rintro e w2 ⟨rfl,rfl⟩
  go_wp2_with fail
  go_ret
  exact⟨⟨_,rfl,rep_empty (Own.rep ⟨_,hr,hus⟩)⟩,hX1⟩
 ·
  have hn0:0< l.length:=List.length_pos_iff.2 h0
  have hfl:(l.flatMap encA).length=l.length*2:=by
   have:=size_flatK encA 2 l.toArray
   rw[←Array.length_toList,flatA_list]at this;simpa using this
  rcases hr.2 with⟨hv,h2⟩ | ⟨g,cap,cur,rfl,hbase,hb,h1,h2,h3,h4⟩
  ·
   exfalso;rw[h2]at hfl;simp at hfl;omega
  ·
   have hg:g< w1.heap.size:=blk_lt hb
   have hH:HoldsK encA 2 w1 g 0 l.toArray:=fun j hj=>by
    rw[size_flatK]at hj
    have hj2:j< l.length*2:=by simpa using hj
    rw[Nat.zero_add,hr.cellAt j hj2,flatA_get l j hj2]
    exact⟨rfl,hr.frozenAt j⟩
   have HS:=Lh (ssf_any l.toArray w1 g cap ⟨fun x=>rfl,fun x v hv=>by simp[encA]at hv;rcases hv with rfl | rfl<;> rfl,hH,hg⟩ (by simpa using hl))
   rw[show l.toArray.size=l.length by simp]at HS
   go_wp2_with fail
   refine HS.out.mono ?_
   rintro e w2 ⟨rfl,d',hpm,hst,S⟩
   go_wp2_with fail
   go_ret
   have hds:d'.size=l.length:=by rw[hpm.1];simp
   have hperm:d'.toList.Perm l:=by
    have:=hpm.2.2
    rw[show d'.extract 0 l.length=d' by rw[←hds];exact Array.extract_size,show l.toArray.extract 0 l.length=l.toArray by rw[show l.length=l.toArray.size by simp];exact Array.extract_size]at this
    exact this
   have hR2:d'.toList=R:=by
    rw[←hR]
    refine sorted_rise hperm hnd fun i j hi hj hij=> ?_
    have:=hst i j (Nat.zero_le _) hij (by rw[Array.length_toList]at hj;omega)
    rw[ltA_eq,getElem!_pos d' i (by simpa using hi),getElem!_pos d' j (by simpa using hj)]at this
    rw[Array.getElem_toList,Array.getElem_toList];exact this
   have hX2:Ext w w2:=Below.grown hX1 S.grew hX1.size fun k hk=>by cases hk;exact hbase
   have hH2:=S.holds hg hH (by rw[hds];simp)
   have hbd:∀x∈d'.toList,(bs x.n).size≤9223372036854775807∧(bs x.v).size≤9223372036854775807:=fun x hx=>by
    obtain⟨i,hi,rfl⟩:=List.getElem_of_mem (hperm.mem_iff.1 hx)
    have:=attr_len h i hi
    rw[bs_size,bs_size];exact this
   refine⟨⟨_,rfl,?_⟩,hX2⟩
   rw[←hR2]
   refine Rep.row g 0 l.length cap 2 (d'.toList.flatMap encA) _ (fun _=>hbase) ?_ ?_ h1 h2 (fun k u hk=> ?_) (fun k u e hk he=> ?_)
   ·
    rw[attrD_map,List.length_map,←flatA_list,Array.length_toList,size_flatK,hds]
   ·
    rw[←flatA_list,Array.length_toList,size_flatK,hds]
   ·
    rw[←flatA_list,Array.getElem?_toList]at hk
    obtain⟨hk1,rfl⟩:=Array.getElem?_eq_some_iff.1 hk
    have:=(hH2 k hk1).1
    rw[getElem!_pos _ k hk1]at this
    exact this
   ·
    rw[attrD_map,List.getElem?_map,hk]at he
    cases he
    obtain⟨x,hx,hu⟩:=List.mem_flatMap.1 (List.mem_of_getElem? hk)
    simp only[encA,List.mem_cons,List.not_mem_nil,or_false]at hu
    rcases hu with rfl | rfl
    ·
     exact Rep.string _ _ _ (hbd x hx).1
    ·
     exact Rep.string _ _ _ (hbd x hx).2
open Go.Sort
def Gw (w w':World):Prop:=∃q os',w'=grow (w.drewN q) os'
theorem Gw.refl (w:World):Gw w w:=⟨0,#[],by rw[grow_empty];rfl⟩
theorem Gw.ext {a b c:World} (h:Gw a b) (k:Gw b c):Gw a c:=by
 obtain⟨q,o,rfl⟩:=h
 obtain⟨q',o',rfl⟩:=k
 exact⟨q+q',o++o',by simp[grow,World.drewN,Array.append_assoc,Nat.add_assoc]⟩
theorem Gw.alloc {a b:World} (h:Gw a b) (o:Obj):Gw a (b.alloc o):=h.ext ⟨0,#[o],by rw[alloc_eq_grow];rfl⟩
theorem Gw.begin (w:World):Gw w (World.drew w):=⟨1,#[],by rw[grow_empty];rfl⟩
theorem Gw.to {a b:World} (h:Gw a b):Ext a b:=by
 obtain⟨q,o,rfl⟩:=h
 exact⟨rfl,rfl,rfl,by simp[grow,World.drewN],fun k hk=>by simp only[grow,World.drewN];rw[Array.getElem?_append_left hk]⟩
theorem Gw.cell {a w:World} (h:Gw a w) {b o:Nat} {v:Value} (hb:b< a.heap.size) (hc:a.cell? ⟨b,o,none⟩=some v):w.cell? ⟨b,o,none⟩=some v:=h.to.keep hb hc
theorem tk_newG {P:Program} {ops:Array Oper} {Q:Exit→Act→World→Prop} {a:Act} {w:World} {K:Act→World→Prop} (i:Nat) (d:Option Tmp) (o:Obj) (f:Nat→Value) {oi:Oper} (hi:ops[i]? =some oi) (hd:oi.dst=d) (hw:Region.wanted oi (yielded ops a.tmps)=true)
  (hrun:(execOp a.eval oi).run P w= .ok (.value (f w.heap.size)) (w.alloc o)) (h:∀g W,g=w.heap.size→Gw w W→W.heap[g]? =some o→K (a.put d (f g)) W):wpOp P ops Q i K a w:=by
 unfold wpOp
 simp only[hi,hw,if_true]
 refine Or.inl ?_
 unfold Oper.wp
 rw[hrun,Oper.upon_value,hd]
 exact h _ _ rfl ((Gw.refl w).alloc _) Array.getElem?_push_size
def stepI (a b:Step):Int:=if Lib.compareBytes a.n b.n=0 then cmpK a.key b.key else Lib.compareBytes a.n b.n
theorem stepG_any (a b:Step) (p q:Nat→Prop) (v u:Value) (w:World) (hx:Rep w p v (strsD a.key)) (hy:Rep w q u (strsD b.key)):
  Calls Tryz.prog 49 #[.agg #[.string (bs a.n),v],.agg #[.string (bs b.n),u]] w fun e w'=>e= .returned (.int .i64 (stepI a b))∧Gw w w':=by
 obtain⟨ka,kc,rfl,_,_⟩:=hx.count z_str (by omega)
 obtain⟨la,lc,rfl,_,_⟩:=hy.count z_str (by omega)
 unfold stepI
 have HC1:=Lh fun W (hE:Gw w W)=>(compare_any a.n b.n W).mono fun e w' (h:e=Ending.returned (.int .i64 (Lib.compareBytes a.n b.n))∧w'=W)=>(⟨h.1,h.2 ▸ Gw.refl W⟩:e=Ending.returned (.int .i64 (Lib.compareBytes a.n b.n))∧Gw W w')
 have HC2:=Lh fun W (hE:Gw w W)=>(cmpK_any a.key b.key p q _ _ W (hx.ext hE.to) (hy.ext hE.to)).mono fun e w' (h:e=Ending.returned (.int .i64 (cmpK a.key b.key))∧w'=W)=>(⟨h.1,h.2 ▸ Gw.refl W⟩:e=Ending.returned (.int .i64 (cmpK a.key b.key))∧Gw W w')
 obtain⟨z1,hz1⟩:∃z,Lib.compareBytes a.n b.n=z:=⟨_,rfl⟩
 obtain⟨z2,hz2⟩:∃z,cmpK a.key b.key=z:=⟨_,rfl⟩
 rw[hz1]at HC1⊢
 rw[hz2]at HC2⊢
 obtain⟨w2,hw2⟩:∃W,w.alloc (.cells #[.string (bs a.n),.slice ka a.key.length kc] 95)=W:=⟨_,rfl⟩
 obtain⟨w3,hw3⟩:∃W,w2.alloc (.cells #[.string (bs b.n),.slice la b.key.length lc] 95)=W:=⟨_,rfl⟩
 obtain⟨g2,hg2⟩:∃g,w.heap.size=g:=⟨_,rfl⟩
 obtain⟨g3,hg3⟩:∃g,g2+1=g:=⟨_,rfl⟩
 have hs2:w2.heap.size=g3:=by rw[←hw2,←hg3,←hg2];simp
 have hE2:Ext w w2:=by rw[←hw2];exact(Ext.refl w).alloc _
 have hE3:Ext w2 w3:=by rw[←hw3];exact(Ext.refl w2).alloc _
 have l22:g2< w2.heap.size:=by omega
 have b02:w2.cell? ⟨g2,0,none⟩=some (.string (bs a.n)):=by rw[←hw2,←hg2];simp[go_sem]
 have b12:w2.cell? ⟨g2,1,none⟩=some (.slice ka a.key.length kc):=by rw[←hw2,←hg2];simp[go_sem]
 have b0:=hE3.keep l22 b02
 have b1:=hE3.keep l22 b12
 have l2:g2< w3.heap.size:=Nat.lt_of_lt_of_le l22 hE3.size
 have l3:g3< w3.heap.size:=by rw[←hw3,←hs2];simp
 have d0:w3.cell? ⟨g3,0,none⟩=some (.string (bs b.n)):=by rw[←hw3,←hs2];simp[go_sem]
 have d1:w3.cell? ⟨g3,1,none⟩=some (.slice la b.key.length lc):=by rw[←hw3,←hs2];simp[go_sem]
 have hE:Gw w w3:=by rw[←hw3,←hw2];exact((Gw.refl w).alloc _).alloc _
 have HC1':=Lh fun W (h:Gw w3 W)=>HC1.out W (hE.ext h)
 have HC2':=Lh fun W (h:Gw w3 W)=>HC2.out W (hE.ext h)
 have HE:=Lh hE
 have HW:=Lh (And.intro hw2 (And.intro hw3 (And.intro hg2 hg3)))
 clear HC1 HC2 hx hy hz1 hz2 hw2 hw3 hg2 hg3 hs2 hE2 hE3 hE b02 b12 l22
 have HC1:=HC1'
 have HC2:=HC2'
 clear HC1' HC2'
 go_enter Tryz.func49,Tryz.ntmps49
 go_upto_region 1 with fail
 rw[HW.out.1,HW.out.2.1,HW.out.2.2.1]
 (try rw[HW.out.2.2.2])
 go_wp2_with fail
 refine rg_begin (S:=Gw w3) (by kernel_rfl) (Gw.begin _) ?_
 have hS:Gw w3 (World.drew w3):=(Gw.begin _)
 refine rg_t 0 (some 5) (.pointer (some ⟨g2,0,none⟩)) rfl hS (fun w' hs=>by first | rfl | go_simp) ?_
 simp only[Act.put,sA,sZ,sS]
 refine rg_t 1 (some 6) (.string (bs a.n)) rfl hS (fun w' hs=>by(have h0:=hs.cell l2 b0;go_simp)) ?_
 simp only[Act.put,sA,sZ,sS]
 refine rg_t 2 (some 7) (.pointer (some ⟨g3,0,none⟩)) rfl hS (fun w' hs=>by first | rfl | go_simp) ?_
 simp only[Act.put,sA,sZ,sS]
 refine rg_t 3 (some 8) (.string (bs b.n)) rfl hS (fun w' hs=>by(have h0:=hs.cell l3 d0;go_simp)) ?_
 simp only[Act.put,sA,sZ,sS]
 refine rg_t 5 (some 10) (.pointer (some ⟨g2,1,none⟩)) rfl hS (fun w' hs=>by first | rfl | go_simp) ?_
 simp only[Act.put,sA,sZ,sS]
 refine rg_t 6 (some 11) (.slice ka a.key.length kc) rfl hS (fun w' hs=>by(have h0:=hs.cell l2 b1;go_simp)) ?_
 simp only[Act.put,sA,sZ,sS]
 refine rg_t 7 (some 12) (.pointer (some ⟨g3,1,none⟩)) rfl hS (fun w' hs=>by first | rfl | go_simp) ?_
 simp only[Act.put,sA,sZ,sS]
 refine rg_t 8 (some 13) (.slice la b.key.length lc) rfl hS (fun w' hs=>by(have h0:=hs.cell l3 d1;go_simp)) ?_
 simp only[Act.put,sA,sZ,sS]
 refine rg_call 4 (some 9) 81 #[.string (bs a.n),.string (bs b.n)] rfl rfl (by kernel_rfl) (by rfl) (fun w'=>by first | rfl | go_simp) (R:=fun v w'=>v= .int .i64 z1∧Gw (World.drew w3) w') ?_ ?_
 ·
  refine(HC1.out (World.drew w3) hS).mono ?_
  rintro e w' ⟨rfl,h⟩
  exact⟨_,rfl,rfl,h⟩
 rintro _ wr1 ⟨rfl,hBr1⟩
 have hS1:=hS.ext hBr1
 refine⟨hS1,?_⟩
 simp only[Act.put,sA,sZ,sS]
 refine rg_call 9 (some 14) 91 #[.slice ka a.key.length kc,.slice la b.key.length lc] rfl rfl (by kernel_rfl) (by rfl) (fun w'=>by first | rfl | go_simp) (R:=fun v w'=>v= .int .i64 z2∧Gw wr1 w') ?_ ?_
 ·
  refine(HC2.out wr1 hS1).mono ?_
  rintro e w' ⟨rfl,h⟩
  exact⟨_,rfl,rfl,h⟩
 rintro _ wr2 ⟨rfl,hBr2⟩
 have hS2:=hS1.ext hBr2
 refine⟨hS2,?_⟩
 simp only[Act.put,sA,sZ,sS]
 refine rg_one 10 (by kernel_rfl) ?_
 refine tk_newG 10 (some 15) (.cells #[.int .i64 z1,.int .i64 z2] 3) (fun n=> .slice (some ⟨n,0,none⟩) 2 2) rfl rfl (by rfl) (by first | rfl | go_simp) ?_
 intro gb wy egb hBwy hgb
 have hSwy:=hS2.ext hBwy
 refine⟨hSwy,?_⟩
 simp only[Act.put,sA,sZ,sS]
 refine rg_one 11 (by kernel_rfl) ?_
 refine tk_call 11 (some 16) 90 #[.slice (some ⟨gb,0,none⟩) 2 2] rfl rfl (by rfl) (fun w'=>by first | rfl | go_simp) (R:=fun v w'=>v= .int .i64 (if z1=0 then z2 else z1)∧Gw wy w') ?_ ?_
 ·
  refine(or_any z1 z2 gb wy (blk_cells hgb 0 rfl) (blk_cells hgb 1 rfl)).mono ?_
  rintro e w' ⟨rfl,rfl⟩
  exact⟨_,rfl,rfl,Gw.refl _⟩
 rintro _ wx ⟨rfl,hBwx⟩
 have hSwx:=hSwy.ext hBwx
 refine⟨hSwx,?_⟩
 simp only[Act.put,sA,sZ,sS]
 refine rg_t 12 (some 4) (.int .i64 (if z1=0 then z2 else z1)) rfl hSwx (fun w' hs=>by rfl) ?_
 simp only[Act.put,sA,sZ,sS]
 refine rg_done (by kernel_rfl) ?_
 have hXf:=HE.out.ext hSwx
 go_wp2_with fail
 all_goals (go_ret;exact⟨rfl,hXf⟩)
theorem stepI_any (a b:Step) (p q:Nat→Prop) (v u:Value) (w:World) (hx:Rep w p v (strsD a.key)) (hy:Rep w q u (strsD b.key)):
  Calls Tryz.prog 49 #[.agg #[.string (bs a.n),v],.agg #[.string (bs b.n),u]] w fun e w'=>e= .returned (.int .i64 (stepI a b))∧Ext w w':=(stepG_any a b p q v u w hx hy).mono fun _ _ h=>⟨h.1,h.2.to⟩
end Go.Proofs.YtebhipeeogoagaaGreatDoor
