/-
 slices.Compare of texts. Helper lemmas;no statement of the seat is proved here.
-/
import Derived.Test.YtcfibjiikhnfhaaGreatDoorU7
import Derived.Test.YtcfibjiikhnfhaaGreatDoorU1
import Derived.Sort.LotA
import Derived.Test.YtcfibjiikhnfhaaGreatDoorU4
import Derived.Shelf.SlSortCmp.KitK
import Derived.Lib.Bytealg
import Derived.Deep.LoopGhost
import Derived.Sort.WalkA6
import Derived.Sort.WalkB2
import Derived.Sort.WalkB12
import Derived.Deep.DeepCutAuto
namespace Go.Proofs.YtcfibjiikhnfhaaGreatDoor
open Go.RowKit
set_option maxHeartbeats 32000000
set_option maxRecDepth 100000
set_option linter.unusedVariables false
set_option linter.unusedSimpArgs false
def cmpK:List Bytes→List Bytes→Int
 | [],[]=>0
 | [],_::_=> -1
 | _::_,[]=>1
 | a::x,b::y=>if cmpI a b=0 then cmpK x y else cmpI a b
theorem cmpK_any (x y:List Bytes) (p q:Nat→Prop) (v u:Value) (W:World) (hx:Rep W p v (strsD x)) (hy:Rep W q u (strsD y)):
  Calls Tryz.prog 98 #[v,u] W fun e w'=>e= .returned (.int .i64 (cmpK x y))∧w'=W:=by
 obtain⟨a,c,rfl,hc1,hc2⟩:=hx.count z_str (by omega)
 obtain⟨b,d,rfl,hd1,hd2⟩:=hy.count z_str (by omega)
 obtain⟨R,hR⟩:∃R,cmpK x y=R:=⟨_,rfl⟩
 rw[hR]
 have HR:=Lh hR
 clear hR
 go_enter Tryz.func98,Tryz.ntmps98
 go_wp2_with fail
 go_loopw [5,6,7,8,11] (fun _ _ _ _ t wr=>∃i:Nat,t= .int .i64 i∧wr=W∧i≤x.length∧i≤y.length∧Hid (cmpK (x.drop i) (y.drop i)=R)) (fun _ _ _ _ t _=>downV x.length t)
 case atStart=>exact⟨0,rfl,rfl,Nat.zero_le _,Nat.zero_le _,HR⟩
 case round=>
  obtain⟨i,rfl,rfl,hi,hiy,HI⟩:=hrel
  have hi0:(0:Int)≤(i:Int):=by omega
  by_cases hlt:i< x.length
  ·
   have hlI:(i:Int)< (x.length:Int):=by omega
   obtain⟨g,o,rfl,lg,_,hcx⟩:=str_at hx i hlt
   by_cases hly:i< y.length
   ·
    have hyI:¬(y.length:Int)≤(i:Int):=by omega
    have hyI2:(i:Int)< (y.length:Int):=by omega
    obtain⟨g',o',rfl,lg',_,hcy⟩:=str_at hy i hly
    have HS:Hid ((if cmpI x[i] y[i]=0 then cmpK (x.drop (i+1)) (y.drop (i+1))else cmpI x[i] y[i])=R):=Lh (by have:=HI.out;rw[drop_one x i hlt,drop_one y i hly]at this;exact this)
    obtain⟨s,hs⟩:∃s,x[i]=s:=⟨_,rfl⟩
    obtain⟨t,ht⟩:∃t,y[i]=t:=⟨_,rfl⟩
    rw[hs]at hcx HS
    rw[ht]at hcy HS
    have HC:=Lh (cmpI_any s t wr)
    obtain⟨z,hz⟩:∃z,cmpI s t=z:=⟨_,rfl⟩
    rw[hz]at HC HS
    clear hs ht hz HI
    by_cases h0:z=0
    ·
     have q1:(z !=0)=false:=by rw[h0];rfl
     have HN:Hid (cmpK (x.drop (i+1)) (y.drop (i+1))=R):=Lh (by have:=HS.out;rwa [if_pos h0]at this)
     clear h0 HS
     go_wp2_with fail
     refine HC.out.mono ?_
     rintro e w1 ⟨rfl,rfl⟩
     clear HC
     go_wp2_with fail
     go_roundw
     case rel=>exact⟨i+1,by go_num,by trivial,by omega,by omega,HN⟩
     case measure=>simp only[downV];omega
    ·
     have q1:(z !=0)=true:=by rw[bne_iff_ne];exact h0
     have HN:Hid (z=R):=Lh (by have:=HS.out;rwa [if_neg h0]at this)
     clear h0 HS
     go_wp2_with fail
     refine HC.out.mono ?_
     rintro e w1 ⟨rfl,rfl⟩
     clear HC
     go_wp2_with fail
     go_ret
     exact⟨by rw[←HN.out];rfl,rfl⟩
   ·
    have hyI:(y.length:Int)≤(i:Int):=by omega
    have HN:Hid ((1:Int)=R):=Lh (by have:=HI.out;rw[drop_one x i hlt,List.drop_of_length_le (show y.length≤i by omega)]at this;exact this)
    clear HI hly
    go_wp2_with fail
    go_ret
    exact⟨by rw[←HN.out];rfl,rfl⟩
  ·
   have hlI:¬(i:Int)< (x.length:Int):=by omega
   by_cases hly:x.length< y.length
   ·
    have hyI:(x.length:Int)< (y.length:Int):=by omega
    have HN:Hid ((-1:Int)=R):=Lh (by have:=HI.out;rw[List.drop_of_length_le (show x.length≤i by omega),drop_one y i (by omega)]at this;exact this)
    clear HI hly
    go_wp2_with fail
    go_ret
    exact⟨by rw[←HN.out];rfl,rfl⟩
   ·
    have hyI:¬(x.length:Int)< (y.length:Int):=by omega
    have HN:Hid ((0:Int)=R):=Lh (by have:=HI.out;rw[List.drop_of_length_le (show x.length≤i by omega),List.drop_of_length_le (show y.length≤i by omega)]at this;exact this)
    clear HI hly
    go_wp2_with fail
    go_ret
    exact⟨by rw[←HN.out];rfl,rfl⟩
open Go.RowKit Go.Sort
section
variable {α:Type} [Inhabited α] {lt:α→α→Bool}
def swR (d:Array α) (a b:Nat):Nat→Array α
 | 0=>d
 | k+1=>swp (swR d a b k) (a+k) (b+k)
theorem swR_size (d:Array α) (a b:Nat):∀k,(swR d a b k).size=d.size
 | 0=>rfl
 | k+1=>by rw[swR,swp_size,swR_size d a b k]
theorem swR_get (d:Array α) (a b:Nat):∀k,a+k≤b→b+k≤d.size→∀x,(swR d a b k)[x]! =if a≤x∧x< a+k then d[x+b - a]! else if b≤x∧x< b+k then d[x+a - b]! else d[x]!
 | 0,h,hb,x=>by rw[if_neg (by omega),if_neg (by omega)];rfl
 | k+1,h,hb,x=>by
  have ih:=swR_get d a b k (by omega) (by omega)
  rw[swR,swp_get _ (by rw[swR_size];omega) (by rw[swR_size];omega),ih,ih,ih]
  by_cases e1:x=b+k
  ·
   rw[if_pos e1,if_neg (by omega),if_neg (by omega),if_neg (by omega),if_pos (by omega)];congr 1;omega
  ·
   rw[if_neg e1]
   by_cases e2:x=a+k
   ·
    rw[if_pos e2,if_neg (by omega),if_neg (by omega),if_pos (by omega)];congr 1;omega
   ·
    rw[if_neg e2]
    by_cases e3:a≤x∧x< a+k
    ·
     rw[if_pos e3,if_pos (by omega)]
    ·
     rw[if_neg e3,if_neg (show¬(a≤x∧x< a+(k+1)) by omega)]
     by_cases e4:b≤x∧x< b+k
     ·
      rw[if_pos e4,if_pos (by omega)]
     ·
      rw[if_neg e4,if_neg (show¬(b≤x∧x< b+(k+1)) by omega)]
theorem swR_perm (d:Array α) (a b lo hi:Nat):∀k,lo≤a→a+k≤b→b+k≤hi→hi≤d.size→PermIn lo hi d (swR d a b k)
 | 0,_,_,_,_=>permIn_refl d lo hi
 | k+1,h1,h2,h3,h4=>permIn_trans _ _ _ _ _ (swR_perm d a b lo hi k h1 (by omega) (by omega) h4) (swp_permIn _ _ _ _ _ (by omega) (by omega) (by omega) (by omega) (by rw[swR_size];exact h4))
def Rot (d:Array α) (a m b:Nat) (d':Array α):Prop:=
 PermIn a b d d'∧∀x,a≤x→x< b→d'[x]! =if x< a+(b - m)then d[x+(m - a)]! else d[x - (b - m)]!
theorem rot_up {d d':Array α} {i j m:Nat} (hij:j< i) (hi:i≤m) (hs:m+j≤d.size) (h:Rot (swR d (m - i) m j) (m - i+j) m (m+j) d'):Rot d (m - i) m (m+j) d':=by
 have g:=swR_get d (m - i) m j (by omega) hs
 refine⟨permIn_trans _ _ _ _ _ (swR_perm d (m - i) m (m - i) (m+j) j (by omega) (by omega) (by omega) hs) (permIn_mono _ _ _ _ _ _ (by omega) (by omega) (by rw[swR_size];exact hs) h.1),fun x h1 h2=> ?_⟩
 by_cases hx:x< m - i+j
 ·
  rw[h.1.2.1 x (by omega),g,if_pos (by omega),if_pos (by omega)];congr 1;omega
 ·
  rw[h.2 x (by omega) h2,if_neg (show¬x< m - i+(m+j - m) by omega)]
  by_cases hy:x< m - i+j+(m+j - m)
  ·
   rw[if_pos hy,g,if_neg (by omega),if_pos (by omega)];congr 1;omega
  ·
   rw[if_neg hy,g,if_neg (by omega),if_neg (by omega)]
theorem rot_down {d d':Array α} {i j m:Nat} (hij:i< j) (hi:i≤m) (hs:m+j≤d.size) (h:Rot (swR d (m - i) (m+j - i) i) (m - i) m (m+(j - i)) d'):Rot d (m - i) m (m+j) d':=by
 have g:=swR_get d (m - i) (m+j - i) i (by omega) (by omega)
 refine⟨permIn_trans _ _ _ _ _ (swR_perm d (m - i) (m+j - i) (m - i) (m+j) i (by omega) (by omega) (by omega) hs) (permIn_mono _ _ _ _ _ _ (by omega) (by omega) (by rw[swR_size];exact hs) h.1),fun x h1 h2=> ?_⟩
 by_cases hx:m+(j - i)≤x
 ·
  rw[h.1.2.1 x (by omega),g,if_neg (by omega),if_pos (by omega),if_neg (by omega)];congr 1;omega
 ·
  rw[h.2 x h1 (by omega)]
  by_cases hy:x< m - i+(m+(j - i) - m)
  ·
   rw[if_pos hy,g,if_neg (by omega),if_neg (by omega),if_pos (by omega)]
  ·
   rw[if_neg hy,g,if_pos (by omega)]
   by_cases hz:x< m - i+(m+j - m)
   ·
    rw[if_pos hz];congr 1;omega
   ·
    omega
theorem rot_eq {d:Array α} {i m:Nat} (hi:i≤m) (hs:m+i≤d.size):Rot d (m - i) m (m+i) (swR d (m - i) m i):=by
 have g:=swR_get d (m - i) m i (by omega) hs
 refine⟨swR_perm d _ _ _ _ i (by omega) (by omega) (by omega) hs,fun x h1 h2=> ?_⟩
 by_cases hx:x< m - i+(m+i - m)
 ·
  rw[if_pos hx,g,if_pos (by omega)];congr 1;omega
 ·
  rw[if_neg hx,g,if_neg (by omega),if_pos (by omega)];congr 1;omega
def upR (d:Array α) (a:Nat):Nat→Array α
 | 0=>d
 | k+1=>swp (upR d a k) (a+k) (a+k+1)
theorem upR_size (d:Array α) (a:Nat):∀k,(upR d a k).size=d.size
 | 0=>rfl
 | k+1=>by rw[upR,swp_size,upR_size d a k]
theorem upR_get (d:Array α) (a:Nat):∀k,a+k< d.size→∀x,(upR d a k)[x]! =if a≤x∧x< a+k then d[x+1]! else if x=a+k then d[a]! else d[x]!
 | 0,_,x=>by
  rw[if_neg (by omega)]
  split
  ·
   rename_i e;rw[e];rfl
  ·
   rfl
 | k+1,h,x=>by
  have ih:=upR_get d a k (by omega)
  rw[upR,swp_get _ (by rw[upR_size];omega) (by rw[upR_size];omega),ih,ih,ih]
  by_cases e1:x=a+k+1
  ·
   rw[if_pos e1,if_neg (by omega),if_pos rfl,if_neg (by omega),if_pos (by omega)]
  ·
   rw[if_neg e1]
   by_cases e2:x=a+k
   ·
    rw[if_pos e2,if_neg (by omega),if_neg (by omega),if_pos (by omega)];congr 1;omega
   ·
    rw[if_neg e2]
    by_cases e3:a≤x∧x< a+k
    ·
     rw[if_pos e3,if_pos (by omega)]
    ·
     rw[if_neg e3,if_neg e2,if_neg (show¬(a≤x∧x< a+(k+1)) by omega),if_neg (by omega)]
theorem upR_perm (d:Array α) (a lo hi:Nat):∀k,lo≤a→a+k< hi→hi≤d.size→PermIn lo hi d (upR d a k)
 | 0,_,_,_=>permIn_refl d lo hi
 | k+1,h1,h2,h3=>permIn_trans _ _ _ _ _ (upR_perm d a lo hi k h1 (by omega) h3) (swp_permIn _ _ _ _ _ (by omega) (by omega) (by omega) (by omega) (by rw[upR_size];exact h3))
def dnR (d:Array α) (m:Nat):Nat→Array α
 | 0=>d
 | k+1=>swp (dnR d m k) (m - k) (m - k - 1)
theorem dnR_size (d:Array α) (a:Nat):∀k,(dnR d a k).size=d.size
 | 0=>rfl
 | k+1=>by rw[dnR,swp_size,dnR_size d a k]
theorem dnR_get (d:Array α) (m:Nat) (hm:m< d.size):∀k,k≤m→∀x,(dnR d m k)[x]! =if m - k< x∧x≤m then d[x - 1]! else if x=m - k then d[m]! else d[x]!
 | 0,_,x=>by
  rw[if_neg (by omega)]
  split
  ·
   rename_i e;rw[e];rfl
  ·
   rfl
 | k+1,h,x=>by
  have ih:=dnR_get d m hm k (by omega)
  rw[dnR,swp_get _ (by rw[dnR_size];omega) (by rw[dnR_size];omega),ih,ih,ih]
  by_cases e1:x=m - k - 1
  ·
   rw[if_pos e1,if_neg (by omega),if_pos rfl,if_neg (by omega),if_pos (by omega)]
  ·
   rw[if_neg e1]
   by_cases e2:x=m - k
   ·
    rw[if_pos e2,if_neg (by omega),if_neg (by omega),if_pos (by omega)];congr 1;omega
   ·
    rw[if_neg e2]
    by_cases e3:m - k< x∧x≤m
    ·
     rw[if_pos e3,if_pos (by omega)]
    ·
     rw[if_neg e3,if_neg e2,if_neg (show¬(m - (k+1)< x∧x≤m) by omega),if_neg (by omega)]
theorem dnR_perm (d:Array α) (m lo hi:Nat):∀k,lo+k≤m→m< hi→hi≤d.size→PermIn lo hi d (dnR d m k)
 | 0,_,_,_=>permIn_refl d lo hi
 | k+1,h1,h2,h3=>permIn_trans _ _ _ _ _ (dnR_perm d m lo hi k (by omega) h2 h3) (swp_permIn _ _ _ _ _ (by omega) (by omega) (by omega) (by omega) (by rw[dnR_size];exact h3))
theorem merge_left (hS:SWO lt) {d:Array α} {a i b:Nat} (hs:SortedIn lt (a+1) b d) (h1:a+1≤i) (h2:i≤b) (hb:b≤d.size) (hl:∀x,a+1≤x→x< i→lt d[x]! d[a]! =true) (hr:∀x,i≤x→x< b→lt d[x]! d[a]! =false):
  PermIn a b d (upR d a (i - 1 - a))∧SortedIn lt a b (upR d a (i - 1 - a)):=by
 have g:=upR_get d a (i - 1 - a) (by omega)
 refine⟨upR_perm d a a b _ (Nat.le_refl _) (by omega) hb,fun x y hx hxy hy=> ?_⟩
 rw[g,g]
 by_cases e1:a≤y∧y< a+(i - 1 - a)
 ·
  rw[if_pos e1,if_pos (by omega)];exact hs _ _ (by omega) (by omega) (by omega)
 ·
  rw[if_neg e1]
  by_cases e2:y=a+(i - 1 - a)
  ·
   rw[if_pos e2,if_pos (by omega)];exact hS.asymmA (hl _ (by omega) (by omega))
  ·
   rw[if_neg e2]
   by_cases e3:a≤x∧x< a+(i - 1 - a)
   ·
    rw[if_pos e3];exact hs _ _ (by omega) (by omega) hy
   ·
    rw[if_neg e3]
    by_cases e4:x=a+(i - 1 - a)
    ·
     rw[if_pos e4];exact hr _ (by omega) hy
    ·
     rw[if_neg e4];exact hs _ _ (by omega) hxy hy
theorem merge_right (hS:SWO lt) {d:Array α} {a i m:Nat} (hs:SortedIn lt a m d) (h1:a≤i) (h2:i≤m) (hb:m< d.size) (hl:∀x,a≤x→x< i→lt d[m]! d[x]! =false) (hr:∀x,i≤x→x< m→lt d[m]! d[x]! =true):
  PermIn a (m+1) d (dnR d m (m - i))∧SortedIn lt a (m+1) (dnR d m (m - i)):=by
 have g:=dnR_get d m hb (m - i) (by omega)
 refine⟨dnR_perm d m a (m+1) _ (by omega) (by omega) (by omega),fun x y hx hxy hy=> ?_⟩
 rw[g,g]
 by_cases e1:m - (m - i)< y∧y≤m
 ·
  rw[if_pos e1]
  by_cases e3:m - (m - i)< x∧x≤m
  ·
   rw[if_pos e3];exact hs _ _ (by omega) (by omega) (by omega)
  ·
   rw[if_neg e3]
   by_cases e4:x=m - (m - i)
   ·
    rw[if_pos e4];exact hS.asymmA (hr _ (by omega) (by omega))
   ·
    rw[if_neg e4];exact hs _ _ (by omega) (by omega) (by omega)
 ·
  rw[if_neg e1]
  by_cases e2:y=m - (m - i)
  ·
   rw[if_pos e2,if_neg (by omega),if_neg (by omega)];exact hl _ (by omega) (by omega)
  ·
   rw[if_neg e2,if_neg (by omega),if_neg (by omega)];exact hs _ _ (by omega) hxy (by omega)
theorem srt_sub {a b a' b':Nat} {d:Array α} (h:SortedIn lt a b d) (h1:a≤a') (h2:b'≤b):SortedIn lt a' b' d:=fun i j hi hij hj=>h i j (by omega) hij (by omega)
theorem srt_same {a b:Nat} {d d':Array α} (h:SortedIn lt a b d) (e:∀x,a≤x→x< b→d'[x]! =d[x]!):SortedIn lt a b d':=fun i j hi hij hj=>by rw[e _ (by omega) hj,e _ hi (by omega)];exact h i j hi hij hj
theorem srt_le {a b i j:Nat} {d:Array α} (hS:SWO lt) (h:SortedIn lt a b d) (hi:a≤i) (hij:i≤j) (hj:j< b):lt d[j]! d[i]! =false:=by
 by_cases e:i=j
 ·
  subst e;exact hS.irrefl _
 ·
  exact h i j hi (by omega) hj
theorem sym_split (hS:SWO lt) {d d':Array α} {a m b mid st en:Nat} (h1:SortedIn lt a m d) (h2:SortedIn lt m b d) (ham:a≤st) (hst:st≤m) (hen:m≤en) (heb:en≤b) (hmid:st+en=mid+m) (hm2:a≤mid) (hm3:mid≤b)
  (hP:∀c e,a≤c→c< st→en≤e→e< b→lt d[e]! d[c]! =false) (hQ:∀c e,st≤c→c< m→m≤e→e< en→lt d[e]! d[c]! =true) (hR:Rot d st m en d') (hb:b≤d.size):
  SortedIn lt a st d'∧SortedIn lt st mid d'∧SortedIn lt mid en d'∧SortedIn lt en b d'∧∀x y,a≤x→x< mid→mid≤y→y< b→lt d'[y]! d'[x]! =false:=by
 have o:∀x,x< st∨en≤x→d'[x]! =d[x]! :=hR.1.2.1
 have q1:∀x,st≤x→x< mid→d'[x]! =d[x+(m - st)]! :=fun x k1 k2=>by rw[hR.2 x k1 (by omega),if_pos (by omega)]
 have q2:∀x,mid≤x→x< en→d'[x]! =d[x - (en - m)]! :=fun x k1 k2=>by rw[hR.2 x (by omega) k2,if_neg (by omega)]
 refine⟨fun i j hi hij hj=> ?_,fun i j hi hij hj=> ?_,fun i j hi hij hj=> ?_,fun i j hi hij hj=> ?_,fun x y hx hxm hy hyb=> ?_⟩
 ·
  rw[o _ (by omega),o _ (by omega)];exact h1 _ _ hi hij (by omega)
 ·
  rw[q1 _ (by omega) hj,q1 _ hi (by omega)];exact h2 _ _ (by omega) (by omega) (by omega)
 ·
  rw[q2 _ (by omega) hj,q2 _ hi (by omega)];exact h1 _ _ (by omega) (by omega) (by omega)
 ·
  rw[o _ (by omega),o _ (by omega)];exact h2 _ _ (by omega) hij hj
 ·
  by_cases ex:x< st
  ·
   rw[o x (by omega)]
   by_cases ey:y< en
   ·
    rw[q2 y hy ey];exact srt_le hS h1 hx (by omega) (by omega)
   ·
    rw[o y (by omega)];exact hP _ _ hx ex (by omega) hyb
  ·
   rw[q1 x (by omega) hxm]
   by_cases ey:y< en
   ·
    rw[q2 y hy ey];exact hS.asymmA (hQ _ _ (by omega) (by omega) (by omega) (by omega))
   ·
    rw[o y (by omega)];exact srt_le hS h2 (by omega) (by omega) hyb
theorem sym_join {d d1 d2:Array α} {a mid b:Nat} (ham:a≤mid) (hmb:mid≤b) (hb:b≤d.size) (hX:∀x y,a≤x→x< mid→mid≤y→y< b→lt d[y]! d[x]! =false)
  (p1:PermIn a mid d d1) (s1:SortedIn lt a mid d1) (p2:PermIn mid b d1 d2) (s2:SortedIn lt mid b d2):PermIn a b d d2∧SortedIn lt a b d2:=by
 refine⟨permIn_trans _ _ _ _ _ (permIn_mono _ _ _ _ _ _ (Nat.le_refl _) hmb hb p1) (permIn_mono _ _ _ _ _ _ ham (Nat.le_refl _) (by rw[p1.1];exact hb) p2),fun i j hi hij hj=> ?_⟩
 have l1:∀x,x< mid→d2[x]! =d1[x]! :=fun x hx=>p2.2.1 x (by omega)
 by_cases ej:j< mid
 ·
  rw[l1 j ej,l1 i (by omega)];exact s1 i j hi hij ej
 ·
  by_cases ei:i< mid
  ·
   rw[l1 i ei]
   have k1:∀y,mid≤y→y< b→lt d1[y]! d1[i]! =false:=fun y hy hyb=>by
    rw[p1.2.1 y (by omega)]
    exact permIn_all d d1 a mid (fun z=>lt d[y]! z=false) (by omega) p1 (fun x hx hxm=>hX x y hx hxm hy hyb) i hi ei
   exact permIn_all d1 d2 mid b (fun z=>lt z d1[i]! =false) (by rw[p1.1];exact hb) p2 (fun y hy hyb=>k1 y hy hyb) j (by omega) hj
  ·
   exact s2 i j (by omega) hij hj
theorem rot_triv {d:Array α} {a m b:Nat} (h:¬(a< m∧m< b)) (ham:a≤m) (hmb:m≤b):Rot d a m b d:=by
 refine⟨permIn_refl _ _ _,fun x h1 h2=> ?_⟩
 by_cases e:x< a+(b - m)
 ·
  rw[if_pos e];congr 1;omega
 ·
  rw[if_neg e];congr 1;omega
theorem sym_end (hS:SWO lt) {d d':Array α} {a m b mid st lo hi:Nat} (h1:SortedIn lt a m d) (h2:SortedIn lt m b d) (hmid:mid=(a+b) / 2) (ham:a< m) (hmb:m< b)
  (hlo:lo=if mid< m then mid+m - b else a) (hhi:hi=if mid< m then mid else m) (hs1:lo≤st) (hs2:st≤hi) (hL:st=lo∨lt d[mid+m - 1 - (st - 1)]! d[st - 1]! =false) (hH:st=hi∨lt d[mid+m - 1 - st]! d[st]! =true)
  (hR:Rot d st m (mid+m - st) d') (hb:b≤d.size):
  a≤st∧st≤mid∧mid≤mid+m - st∧mid+m - st≤b∧PermIn a b d d'∧SortedIn lt a st d'∧SortedIn lt st mid d'∧SortedIn lt mid (mid+m - st) d'∧SortedIn lt (mid+m - st) b d'∧∀x y,a≤x→x< mid→mid≤y→y< b→lt d'[y]! d'[x]! =false:=by
 have q:a≤st∧st≤m∧m≤mid+m - st∧mid+m - st≤b∧st≤mid∧mid≤mid+m - st:=by split at hlo<;> split at hhi<;> omega
 obtain⟨q1,q2,q3,q4,q5,q6⟩:=q
 refine⟨q1,q5,q6,q4,permIn_mono _ _ _ _ _ _ q1 q4 hb hR.1,sym_split hS h1 h2 q1 q2 q3 q4 (by omega) (by omega) (by omega) (fun c e c1 c2 e1 e2=> ?_) (fun c e c1 c2 e1 e2=> ?_) hR hb⟩
 ·
  rcases hL with hL | hL
  ·
   exfalso;split at hlo<;> omega
  ·
   rw[show mid+m - 1 - (st - 1)=mid+m - st by omega]at hL
   exact hS.ntrans _ _ _ (hS.ntrans _ _ _ (srt_le hS h2 q3 e1 e2) hL) (srt_le hS h1 c1 (by omega) (by omega))
 ·
  rcases hH with hH | hH
  ·
   exfalso;split at hhi<;> omega
  ·
   cases e0:lt d[e]! d[c]! with
   | true=>rfl
   | false=>
    have k:=hS.ntrans _ _ _ (srt_le hS h2 e1 (show e≤mid+m - 1 - st by omega) (by omega)) (hS.ntrans _ _ _ e0 (srt_le hS h1 q1 c1 c2))
    rw[hH]at k;cases k
theorem sym_done {d d' d1 d2:Array α} {a m b mid st en:Nat} (h1:a≤st) (h2:st≤mid) (h3:mid≤en) (h4:en≤b) (hb:b≤d.size) (hp:PermIn a b d d')
  (s1:SortedIn lt a st d') (s2:SortedIn lt st mid d') (s3:SortedIn lt mid en d') (s4:SortedIn lt en b d') (hX:∀x y,a≤x→x< mid→mid≤y→y< b→lt d'[y]! d'[x]! =false)
  (k1:if a< st∧st< mid then PermIn a mid d' d1∧SortedIn lt a mid d1 else d1=d') (k2:if mid< en∧en< b then PermIn mid b d1 d2∧SortedIn lt mid b d2 else d2=d1):PermIn a b d d2∧SortedIn lt a b d2:=by
 have z:b≤d'.size:=by rw[hp.1];exact hb
 have r1:PermIn a mid d' d1∧SortedIn lt a mid d1:=by
  split at k1
  ·
   exact k1
  ·
   subst k1
   refine⟨permIn_refl _ _ _,?_⟩
   by_cases e:st=a
   ·
    subst e;exact s2
   ·
    obtain rfl:st=mid:=by omega
    exact s1
 have r2:PermIn mid b d1 d2∧SortedIn lt mid b d2:=by
  split at k2
  ·
   exact k2
  ·
   subst k2
   refine⟨permIn_refl _ _ _,?_⟩
   have o:∀x,mid≤x→x< b→d2[x]! =d'[x]! :=fun x hx _=>r1.1.2.1 x (by omega)
   by_cases e:en=mid
   ·
    subst e;exact srt_same s4 o
   ·
    obtain rfl:en=b:=by omega
    exact srt_same s3 o
 have:=sym_join (by omega) (by omega) z hX r1.1 r1.2 r2.1 r2.2
 exact⟨permIn_trans _ _ _ _ _ hp this.1,this.2⟩
end
open Go.RowKit Go.Sort Go.Lib
theorem cmp_lt:∀a b:Bytes,decide (Lib.compareBytes a b< 0)=lessB a b
 | [],[]=>rfl
 | [],_::_=>rfl
 | _::_,[]=>rfl
 | a::x,b::y=>by
  rw[Lib.compareBytes,lessB]
  by_cases h:a=b
  ·
   subst h
   rw[if_neg (UInt8.lt_irrefl a),if_neg (UInt8.lt_irrefl a),if_pos rfl];exact cmp_lt x y
  ·
   rw[if_neg h]
   by_cases h1:a< b
   ·
    rw[if_pos h1,decide_eq_true (show a.toNat< b.toNat from h1)];rfl
   ·
    have h2:b< a:=by
     have h3:¬a.toNat< b.toNat:=h1
     have h4:a.toNat≠b.toNat:=fun e=>h (UInt8.toNat_inj.1 e)
     show b.toNat< a.toNat;omega
    rw[if_neg h1,if_pos h2,decide_eq_false (show¬a.toNat< b.toNat from h1)];rfl
theorem cmp_zero:∀a b:Bytes,Lib.compareBytes a b=0↔a=b
 | [],[]=>by simp[Lib.compareBytes]
 | [],_::_=>by simp[Lib.compareBytes]
 | _::_,[]=>by simp[Lib.compareBytes]
 | a::x,b::y=>by
  rw[Lib.compareBytes,List.cons.injEq]
  by_cases h:a=b
  ·
   subst h
   rw[if_neg (UInt8.lt_irrefl a),if_neg (UInt8.lt_irrefl a),cmp_zero x y];simp
  ·
   have:¬(a=b∧x=y):=fun e=>h e.1
   by_cases h1:a< b
   ·
    rw[if_pos h1];simp[h]
   ·
    have h2:b< a:=by
     have h3:¬a.toNat< b.toNat:=h1
     have h4:a.toNat≠b.toNat:=fun e=>h (UInt8.toNat_inj.1 e)
     show b.toNat< a.toNat;omega
    rw[if_neg h1,if_pos h2];simp[h]
instance attrInh:Inhabited Attr:=⟨⟨[],[]⟩⟩
def encA (a:Attr):List Value:= [.string (bs a.n),.string (bs a.v)]
def cfA (a b:Attr):Int:=Lib.compareBytes a.n b.n
open Go.Sort in
theorem ltA_eq (x y:Attr):ltOf cfA x y=lessB x.n y.n:=cmp_lt x.n y.n
open Go.Sort in
theorem swoA:SWO (ltOf cfA):=by
 refine⟨fun x=>by rw[ltA_eq];exact lessB_irrefl _,fun x y z h1 h2=> ?_,fun x y z h1 h2=> ?_⟩
 ·
  rw[ltA_eq]at h1 h2⊢;exact lessB_trans _ _ _ h1 h2
 ·
  rw[ltA_eq]at h1 h2⊢
  cases h3:lessB x.n z.n with
  | false=>rfl
  | true=>
   by_cases hxy:x.n=y.n
   ·
    rw[hxy,h2]at h3;cases h3
   ·
    have h4:=lessB_total _ _ hxy h1
    rw[lessB_trans _ _ _ h4 h3]at h2;cases h2
theorem _root_.Go.Proofs.SWK.c {dk d0:Array Attr} {w0 W:World} {blk off:Nat} (h:SWK encA 2 w0 blk off dk W) (R:RowK encA 2 w0 blk off d0) (hs:dk.size=d0.size) (i:Nat) (hi:i< dk.size):
  W.cell? ⟨blk,off+i*2,none⟩=some (.string (bs dk[i]!.n))∧W.cell? ⟨blk,off+i*2+1,none⟩=some (.string (bs dk[i]!.v))∧W.frozen? ⟨blk,off+i*2,none⟩=false∧W.frozen? ⟨blk,off+i*2+1,none⟩=false:=by
 have H:=h.holds R.hblk R.hH hs
 have h0:=HoldsK.cell H hi (show 0< 2 by decide)
 have h1:=HoldsK.cell H hi (show 1< 2 by decide)
 exact⟨h0.1,h1.1,h0.2,h1.2⟩
theorem swapR_any (d0 d:Array Attr) (w0 w:World) (blk off cap:Nat) (R:RowK encA 2 w0 blk off d0) (hs:d0.size=d.size) (S:SWK encA 2 w0 blk off d w) (hsz:d.size≤16777216) (f:Value) (a b n:Nat) (h1:a+n≤b) (h2:b+n≤d.size):
  Calls Tryz.prog 231 #[.slice (some ⟨blk,off,none⟩) d.size cap,.int .i64 a,.int .i64 b,.int .i64 n,f] w fun e w'=>e= .returned (.tuple #[])∧SWK encA 2 w0 blk off (swR d a b n) w':=by
 have mixed:Tryz.prog.follows Departure.mixedOrders=true:=by kernel_rfl
 have S0:Aside _:=S
 clear S
 go_enter Tryz.func231,Tryz.ntmps231
 go_wp2_with fail
 go_loopg [10] n (fun gg t wr=>∃k:Nat,t= .int .i64 k∧k≤n∧n - k≤gg∧Aside (SWK encA 2 w0 blk off (swR d a b k) wr))
 case atStart=>exact⟨0,rfl,Nat.zero_le _,Nat.le_refl _,S0⟩
 case round=>
  clear S0
  obtain⟨k,rfl,hk,hg,S1⟩:=hrel
  by_cases hlt:k< n
  ·
   have hltI:(k:Int)< (n:Int):=by omega
   have hsk:(swR d a b k).size=d.size:=swR_size d a b k
   have HN:Hid (swp (swR d a b k) (a+k) (b+k)=swR d a b (k+1)):=Lh rfl
   obtain⟨dk,hdk⟩:∃dk,swR d a b k=dk:=⟨_,rfl⟩
   rw[hdk]at S1 hsk HN
   clear hdk
   have eqi:((a:Int)+(k:Int)).toNat=a+k:=by omega
   have pqi:(0:Int)≤(a:Int)+(k:Int):=by omega
   have bqi:(a:Int)+(k:Int)< (d.size:Int):=by omega
   have eqj:((b:Int)+(k:Int)).toNat=b+k:=by omega
   have pqj:(0:Int)≤(b:Int)+(k:Int):=by omega
   have bqj:(b:Int)+(k:Int)< (d.size:Int):=by omega
   have S1q:Aside (SWK encA 2 w0 blk off (swp dk (a+k) (b+k)) ((((wr.setCell ⟨blk,off+(a+k)*2,none⟩ (.string (bs dk[b+k]!.n))).setCell ⟨blk,off+(a+k)*2+1,none⟩ (.string (bs dk[b+k]!.v))).setCell ⟨blk,off+(b+k)*2,none⟩ (.string (bs dk[a+k]!.n))).setCell ⟨blk,off+(b+k)*2+1,none⟩ (.string (bs dk[a+k]!.v))).drew):=S1.out.swapped R (a+k) (b+k) (by omega) (by omega)
   obtain⟨cq0,cq1,fq0,fq1⟩:=S1.out.c R (by omega) (a+k) (by omega)
   obtain⟨cq2,cq3,fq2,fq3⟩:=S1.out.c R (by omega) (b+k) (by omega)
   generalize dk[a+k]! =xIq at S1q cq0 cq1
   generalize dk[b+k]! =xJq at S1q cq2 cq3
   obtain⟨oiq,hoiq⟩:∃o,off+(a+k)*2=o:=⟨_,rfl⟩
   obtain⟨ojq,hojq⟩:∃o,off+(b+k)*2=o:=⟨_,rfl⟩
   have neqa:¬oiq=ojq:=by omega
   have neqb:¬oiq=ojq+1:=by omega
   have neqc:¬oiq+1=ojq:=by omega
   have neqd:¬oiq=oiq+1:=by omega
   have neqe:¬ojq=ojq+1:=by omega
   rw[hoiq,hojq]at S1q
   rw[hoiq]at cq0 cq1 fq0 fq1
   rw[hojq]at cq2 cq3 fq2 fq3
   clear S1
   go_wp2_with fail
   go_big_region_o
   clear cq0 cq1 cq2 cq3 fq0 fq1 fq2 fq3 neqa neqb neqc neqd neqe hoiq hojq
   generalize ((((wr.setCell ⟨blk,oiq,none⟩ (.string (bs xJq.n))).setCell ⟨blk,oiq+1,none⟩ (.string (bs xJq.v))).setCell ⟨blk,ojq,none⟩ (.string (bs xIq.n))).setCell ⟨blk,ojq+1,none⟩ (.string (bs xIq.v))).drew=wq at S1q⊢
   go_wp2_with fail
   go_roundg (n - (k+1))
   case measure=>omega
   case rel=>exact⟨k+1,by go_num,by omega,Nat.le_refl _,by rw[←HN.out];exact S1q⟩
  ·
   have hltI:¬(k:Int)< (n:Int):=by omega
   obtain rfl:k=n:=by omega
   go_wp2_with fail
   refine bodyPost_end (results_none rfl _ _ _) rfl ?_
   exact⟨rfl,S1.out⟩
theorem rotate_any (d0 d:Array Attr) (w0 w:World) (blk off cap:Nat) (R:RowK encA 2 w0 blk off d0) (hs:d0.size=d.size) (S:SWK encA 2 w0 blk off d w) (hsz:d.size≤16777216) (f:Value) (a m b:Nat) (h1:a< m) (h2:m< b) (h3:b≤d.size):
  Calls Tryz.prog 211 #[.slice (some ⟨blk,off,none⟩) d.size cap,.int .i64 a,.int .i64 m,.int .i64 b,f] w fun e w'=>e= .returned (.tuple #[])∧∃d',Rot d a m b d'∧SWK encA 2 w0 blk off d' w':=by
 have S0:Aside _:=S
 clear S
 have H0:Hid (∀d',Rot d (m - (m - a)) m (m+(b - m)) d'→Rot d a m b d'):=Lh fun d' h=>by rwa [show m - (m - a)=a by omega,show m+(b - m)=b by omega]at h
 have z1:(m:Int) - (a:Int)=((m - a:Nat):Int):=by omega
 have z2:(b:Int) - (m:Int)=((b - m:Nat):Int):=by omega
 go_enter Tryz.func211,Tryz.ntmps211
 go_wp2_with fail
 go_loopg [10,11] (b - a) (fun gg vi vj wr=>∃(i j:Nat) (dk:Array Attr),vi= .int .i64 i∧vj= .int .i64 j∧1≤i∧1≤j∧i≤m∧m+j≤d.size∧i+j≤gg+1∧dk.size=d.size∧Aside (SWK encA 2 w0 blk off dk wr)∧Hid (∀d',Rot dk (m - i) m (m+j) d'→Rot d a m b d'))
 case atStart=>exact⟨m - a,b - m,d,by go_num,by go_num,by omega,by omega,by omega,by omega,by omega,rfl,S0,H0⟩
 case round=>
  clear S0 H0 z1 z2
  obtain⟨i,j,dk,rfl,rfl,hi1,hj1,him,hjs,hg,hsk,S1,HI⟩:=hrel
  obtain⟨p,hp⟩:∃p,m - i=p:=⟨_,rfl⟩
  have zp:(m:Int) - (i:Int)=(p:Int):=by omega
  by_cases he:i=j
  ·
   subst he
   have q0:((i:Int)==(i:Int))=true:=beq_self_eq_true _
   have HC:=Lh (swapR_any d0 dk w0 wr blk off cap R (by omega) S1.out (by omega) f p m i (by omega) (by omega))
   rw[hsk]at HC
   go_wp2_with fail
   refine HC.out.mono ?_
   rintro e w2 ⟨rfl,S2⟩
   go_wp2_with fail
   refine bodyPost_end (results_none rfl _ _ _) rfl ?_
   exact⟨rfl,_,HI.out _ (by rw[hp];have:=rot_eq (d:=dk) him (by omega);rwa [hp]at this),S2⟩
  ·
   have q0:((i:Int)==(j:Int))=false:=by rw[beq_eq_false_iff_ne];omega
   by_cases hij:j< i
   ·
    have hijI:(j:Int)< (i:Int):=by omega
    have HC:=Lh (swapR_any d0 dk w0 wr blk off cap R (by omega) S1.out (by omega) f p m j (by omega) (by omega))
    rw[hsk]at HC
    have zn:(i:Int) - (j:Int)=((i - j:Nat):Int):=by omega
    go_wp2_with fail
    refine HC.out.mono ?_
    rintro e w2 ⟨rfl,S2⟩
    go_wp2_with fail
    go_roundg (i+j - j - 1)
    case measure=>omega
    case rel=>exact⟨i - j,j,_,by go_num,rfl,by omega,hj1,by omega,hjs,by omega,(swR_size _ _ _ _).trans hsk,Lh S2,Lh fun d' h=>HI.out d' (rot_up hij him (by omega) (by rw[hp];rwa [show m - (i - j)=p+j by omega]at h))⟩
   ·
    have hijI:¬(j:Int)< (i:Int):=by omega
    have HC:=Lh (swapR_any d0 dk w0 wr blk off cap R (by omega) S1.out (by omega) f p (m+j - i) i (by omega) (by omega))
    rw[hsk]at HC
    have zq:(m:Int)+(j:Int) - (i:Int)=((m+j - i:Nat):Int):=by omega
    have zn:(j:Int) - (i:Int)=((j - i:Nat):Int):=by omega
    go_wp2_with fail
    refine HC.out.mono ?_
    rintro e w2 ⟨rfl,S2⟩
    go_wp2_with fail
    go_roundg (i+j - i - 1)
    case measure=>omega
    case rel=>exact⟨i,j - i,_,rfl,by go_num,hi1,by omega,him,by omega,by omega,(swR_size _ _ _ _).trans hsk,Lh S2,Lh fun d' h=>HI.out d' (rot_down (by omega) him (by omega) (by rw[hp]at h⊢;exact h))⟩
theorem lt_mono {d:Array Attr} {lo hi i j:Nat} {z:Attr} (h:SortedIn (ltOf cfA) lo hi d) (h1:lo≤i) (h2:i≤j) (h3:j< hi) (k:ltOf cfA d[j]! z=true):ltOf cfA d[i]! z=true:=by
 cases e:ltOf cfA d[i]! z with
 | true=>rfl
 | false=>have:=swoA.ntrans _ _ _ (srt_le swoA h h1 h2 h3) e;rw[k]at this;cases this
theorem lt_mono' {d:Array Attr} {lo hi i j:Nat} {z:Attr} (h:SortedIn (ltOf cfA) lo hi d) (h1:lo≤i) (h2:i≤j) (h3:j< hi) (k:ltOf cfA z d[i]! =true):ltOf cfA z d[j]! =true:=by
 cases e:ltOf cfA z d[j]! with
 | true=>rfl
 | false=>have:=swoA.ntrans _ _ _ e (srt_le swoA h h1 h2 h3);rw[k]at this;cases this
theorem merge1_any (HC0:True) (d0 d:Array Attr) (w0 w:World) (blk off cap:Nat) (R:RowK encA 2 w0 blk off d0) (hs:d0.size=d.size) (S:SWK encA 2 w0 blk off d w) (hsz:d.size≤16777216) (hC:CmpLays Tryz.prog 87 #[] encA 2 cfA blk off d0.size w0) (a m b:Nat) (h1:m=a+1) (h2:m< b) (h3:b≤d.size) (k2:SortedIn (ltOf cfA) m b d):
  Calls Tryz.prog 173 #[.slice (some ⟨blk,off,none⟩) d.size cap,.int .i64 a,.int .i64 m,.int .i64 b,.func (.func 87) #[] #[]] w fun e w'=>e= .returned (.tuple #[])∧∃d',PermIn a b d d'∧SortedIn (ltOf cfA) a b d'∧SWK encA 2 w0 blk off d' w':=by
 have mixed:Tryz.prog.follows Departure.mixedOrders=true:=by kernel_rfl
 have eg:∀args w,(callFunc 87 args).run Tryz.prog w= .ok (.enter 87 args) w:=enters_of Tryz.func87 (by kernel_rfl) rfl
 have HC:Aside _:=hC
 have S0:Aside _:=S
 have K2:=Lh k2
 have q1:((m:Int) - (a:Int)==1)=true:=by rw[beq_iff_eq];omega
 have ham:a< m:=by omega
 have H1:=Lh h1
 clear S hC k2 h1
 go_enter Tryz.func173,Tryz.ntmps173
 go_wp2_with fail
 go_loopg [10,11] (b) (fun gg vi vj wr=>∃i j:Nat,vi= .int .i64 i∧vj= .int .i64 j∧m≤i∧i≤j∧j≤b∧j - i≤gg∧Aside (SWK encA 2 w0 blk off d wr)∧Aside ((∀x,m≤x→x< i→ltOf cfA d[x]! d[a]! =true)∧(∀x,j≤x→x< b→ltOf cfA d[x]! d[a]! =false)))
 case atStart=>exact⟨m,b,by go_num,by go_num,Nat.le_refl _,by omega,Nat.le_refl _,by omega,S0,Lh ⟨fun x k1 k2=>by omega,fun x k1 k2=>by omega⟩⟩
 case round=>
  clear S0
  obtain⟨i,j,rfl,rfl,hi,hij,hj,hg,S1,HI⟩:=hrel
  by_cases hlt:i< j
  ·
   have hltI:(i:Int)< (j:Int):=by omega
   obtain⟨H,hH⟩:∃H,(i+j) / 2=H:=⟨_,rfl⟩
   have hHz:((i:Int)+(j:Int)) / 2=(H:Int):=by omega
   have hHi:i≤H∧H< j:=by omega
   cases hlt1:ltOf cfA d[H]! d[a]! with
   | true=>
    have e1i:((H:Int)).toNat=H:=by omega
    have p1i:(0:Int)≤(H:Int):=by omega
    have b1i:(H:Int)< (d.size:Int):=by omega
    have e1j:((a:Int)).toNat=a:=by omega
    have p1j:(0:Int)≤(a:Int):=by omega
    have b1j:(a:Int)< (d.size:Int):=by omega
    obtain⟨x1,hx1⟩:∃x,x=d[H]! :=⟨_,rfl⟩
    obtain⟨y1,hy1⟩:∃x,x=d[a]! :=⟨_,rfl⟩
    have l1a:=fun n os=>((S1.out.grown n os).c R (by omega) (H) (by omega)).1
    have l1b:=fun n os=>((S1.out.grown n os).c R (by omega) (H) (by omega)).2.1
    have l1c:=fun n os=>((S1.out.grown n os).c R (by omega) (a) (by omega)).1
    have l1d:=fun n os=>((S1.out.grown n os).c R (by omega) (a) (by omega)).2.1
    rw[←hx1]at l1a l1b
    rw[←hy1]at l1c l1d
    have hc1:∀n os,Calls Tryz.prog 87 #[.agg #[.string (bs x1.n),.string (bs x1.v)],.agg #[.string (bs y1.n),.string (bs y1.v)]] (grow (wr.drewN n) os) fun e w'=>e= .returned (.int .i64 (cfA x1 y1))∧∃q os',w'=grow ((grow (wr.drewN n) os).drewN q) os':=fun n os=>S1.out.cmp HC.out (by omega) x1 y1 n os
    have hv1:cfA x1 y1< 0:=by rw[hx1,hy1];exact of_decide_eq_true hlt1
    have hd1:decide (cfA x1 y1< 0)=true:=by simp[hv1]
    generalize cfA x1 y1=cv1 at hc1 hv1 hd1
    clear hx1 hy1
    go_wp2_with fail
    go_quiet_grown (first | (go_at_fn 87;refine Calls.grown_of (hc1 _ _)))
    have S1t:Aside (SWK encA 2 w0 blk off d (grow (wr.drewN nq) osq)):=S1.out.grown nq osq
    clear l1a l1b l1c l1d hc1 S1
    generalize grow (wr.drewN nq) osq=w1 at S1t⊢
    clear nq osq
    go_wp2_with fail
    go_roundg (j - (H+1))
    case measure=>omega
    case rel=>exact⟨H+1,j,by go_num,rfl,by omega,by omega,hj,Nat.le_refl _,S1t,Lh ⟨fun x k1 k2=>lt_mono K2.out k1 (show x≤H by omega) (by omega) hlt1,HI.out.2⟩⟩
   | false=>
    have e1i:((H:Int)).toNat=H:=by omega
    have p1i:(0:Int)≤(H:Int):=by omega
    have b1i:(H:Int)< (d.size:Int):=by omega
    have e1j:((a:Int)).toNat=a:=by omega
    have p1j:(0:Int)≤(a:Int):=by omega
    have b1j:(a:Int)< (d.size:Int):=by omega
    obtain⟨x1,hx1⟩:∃x,x=d[H]! :=⟨_,rfl⟩
    obtain⟨y1,hy1⟩:∃x,x=d[a]! :=⟨_,rfl⟩
    have l1a:=fun n os=>((S1.out.grown n os).c R (by omega) (H) (by omega)).1
    have l1b:=fun n os=>((S1.out.grown n os).c R (by omega) (H) (by omega)).2.1
    have l1c:=fun n os=>((S1.out.grown n os).c R (by omega) (a) (by omega)).1
    have l1d:=fun n os=>((S1.out.grown n os).c R (by omega) (a) (by omega)).2.1
    rw[←hx1]at l1a l1b
    rw[←hy1]at l1c l1d
    have hc1:∀n os,Calls Tryz.prog 87 #[.agg #[.string (bs x1.n),.string (bs x1.v)],.agg #[.string (bs y1.n),.string (bs y1.v)]] (grow (wr.drewN n) os) fun e w'=>e= .returned (.int .i64 (cfA x1 y1))∧∃q os',w'=grow ((grow (wr.drewN n) os).drewN q) os':=fun n os=>S1.out.cmp HC.out (by omega) x1 y1 n os
    have hv1:¬cfA x1 y1< 0:=by rw[hx1,hy1];exact of_decide_eq_false hlt1
    have hd1:decide (cfA x1 y1< 0)=false:=by simp[hv1]
    generalize cfA x1 y1=cv1 at hc1 hv1 hd1
    clear hx1 hy1
    go_wp2_with fail
    go_quiet_grown (first | (go_at_fn 87;refine Calls.grown_of (hc1 _ _)))
    have S1t:Aside (SWK encA 2 w0 blk off d (grow (wr.drewN nq) osq)):=S1.out.grown nq osq
    clear l1a l1b l1c l1d hc1 S1
    generalize grow (wr.drewN nq) osq=w1 at S1t⊢
    clear nq osq
    go_wp2_with fail
    go_roundg (H - i)
    case measure=>omega
    case rel=>exact⟨i,H,rfl,by go_num,hi,by omega,by omega,Nat.le_refl _,S1t,Lh ⟨HI.out.1,fun x k1 k2=>swoA.ntrans _ _ _ (srt_le swoA K2.out (by omega) k1 k2) hlt1⟩⟩
  ·
   have hltI:¬(i:Int)< (j:Int):=by omega
   obtain rfl:i=j:=by omega
   have MG:=Lh (merge_left (i:=i) swoA (show SortedIn (ltOf cfA) (a+1) b d by rw[←H1.out];exact K2.out) (by omega) hj h3 (fun x e1 e2=>HI.out.1 x (by have:=H1.out;omega) e2) (fun x e1 e2=>HI.out.2 x e1 e2))
   go_wp2_with fail
   go_loopg [13] b (fun gg vk wr=>∃k:Nat,vk= .int .i64 (a+k:Nat)∧k≤i - 1 - a∧i - 1 - a - k≤gg∧Aside (SWK encA 2 w0 blk off (upR d a k) wr))
   case atStart=>exact⟨0,by go_num,Nat.zero_le _,by omega,S1⟩
   case round=>
    clear S1
    obtain⟨k,rfl,hk,hgk,S2⟩:=hrel
    by_cases hlk:k< i - 1 - a
    ·
     have hlkI:((a+k:Nat):Int)< (i:Int) - 1:=by omega
     have hsk:(upR d a k).size=d.size:=upR_size d a k
     have HN:Hid (swp (upR d a k) (a+k) (a+k+1)=upR d a (k+1)):=Lh rfl
     obtain⟨dk,hdk⟩:∃dk,upR d a k=dk:=⟨_,rfl⟩
     rw[hdk]at S2 hsk HN
     obtain⟨I,hI⟩:∃I,a+k=I:=⟨_,rfl⟩
     rw[hI]at HN hlkI⊢
     clear hdk
     have hIb:I+1< d.size:=by omega
     have eqi:((I:Int)).toNat=I:=by omega
     have pqi:(0:Int)≤(I:Int):=by omega
     have bqi:(I:Int)< (d.size:Int):=by omega
     have eqj:((I:Int)+1).toNat=I+1:=by omega
     have pqj:(0:Int)≤(I:Int)+1:=by omega
     have bqj:(I:Int)+1< (d.size:Int):=by omega
     have S2q:Aside (SWK encA 2 w0 blk off (swp dk (I) (I+1)) ((((wr.setCell ⟨blk,off+(I)*2,none⟩ (.string (bs dk[I+1]!.n))).setCell ⟨blk,off+(I)*2+1,none⟩ (.string (bs dk[I+1]!.v))).setCell ⟨blk,off+(I+1)*2,none⟩ (.string (bs dk[I]!.n))).setCell ⟨blk,off+(I+1)*2+1,none⟩ (.string (bs dk[I]!.v))).drew):=S2.out.swapped R (I) (I+1) (by omega) (by omega)
     obtain⟨cq0,cq1,fq0,fq1⟩:=S2.out.c R (by omega) (I) (by omega)
     obtain⟨cq2,cq3,fq2,fq3⟩:=S2.out.c R (by omega) (I+1) (by omega)
     generalize dk[I]! =xIq at S2q cq0 cq1
     generalize dk[I+1]! =xJq at S2q cq2 cq3
     obtain⟨oiq,hoiq⟩:∃o,off+(I)*2=o:=⟨_,rfl⟩
     obtain⟨ojq,hojq⟩:∃o,off+(I+1)*2=o:=⟨_,rfl⟩
     have neqa:¬oiq=ojq:=by omega
     have neqb:¬oiq=ojq+1:=by omega
     have neqc:¬oiq+1=ojq:=by omega
     have neqd:¬oiq=oiq+1:=by omega
     have neqe:¬ojq=ojq+1:=by omega
     rw[hoiq,hojq]at S2q
     rw[hoiq]at cq0 cq1 fq0 fq1
     rw[hojq]at cq2 cq3 fq2 fq3
     clear S2
     go_wp2_with fail
     go_big_region_o
     clear cq0 cq1 cq2 cq3 fq0 fq1 fq2 fq3 neqa neqb neqc neqd neqe hoiq hojq
     generalize ((((wr.setCell ⟨blk,oiq,none⟩ (.string (bs xJq.n))).setCell ⟨blk,oiq+1,none⟩ (.string (bs xJq.v))).setCell ⟨blk,ojq,none⟩ (.string (bs xIq.n))).setCell ⟨blk,ojq+1,none⟩ (.string (bs xIq.v))).drew=wq at S2q⊢
     go_wp2_with fail
     go_roundg (i - 1 - a - (k+1))
     case measure=>omega
     case rel=>exact⟨k+1,by rw[←hI];go_num,by omega,Nat.le_refl _,by rw[←HN.out];exact S2q⟩
    ·
     have hlkI:¬((a+k:Nat):Int)< (i:Int) - 1:=by omega
     obtain rfl:k=i - 1 - a:=by omega
     go_wp2_with fail
     (try simp only[Exit.inBlock,Exit.then])
     refine bodyPost_ret (results_none rfl _ _ _) rfl ?_
     exact⟨rfl,_,(MG.out).1,(MG.out).2,S2.out⟩
theorem merge2_any (d0 d:Array Attr) (w0 w:World) (blk off cap:Nat) (R:RowK encA 2 w0 blk off d0) (hs:d0.size=d.size) (S:SWK encA 2 w0 blk off d w) (hsz:d.size≤16777216) (hC:CmpLays Tryz.prog 87 #[] encA 2 cfA blk off d0.size w0) (a m b:Nat) (h0:¬m=a+1) (h1:a< m) (h2:b=m+1) (h3:b≤d.size) (k1:SortedIn (ltOf cfA) a m d):
  Calls Tryz.prog 173 #[.slice (some ⟨blk,off,none⟩) d.size cap,.int .i64 a,.int .i64 m,.int .i64 b,.func (.func 87) #[] #[]] w fun e w'=>e= .returned (.tuple #[])∧∃d',PermIn a b d d'∧SortedIn (ltOf cfA) a b d'∧SWK encA 2 w0 blk off d' w':=by
 have mixed:Tryz.prog.follows Departure.mixedOrders=true:=by kernel_rfl
 have eg:∀args w,(callFunc 87 args).run Tryz.prog w= .ok (.enter 87 args) w:=enters_of Tryz.func87 (by kernel_rfl) rfl
 have HC:Aside _:=hC
 have S0:Aside _:=S
 have K1:=Lh k1
 have q1:((m:Int) - (a:Int)==1)=false:=by rw[beq_eq_false_iff_ne];omega
 have q2:((b:Int) - (m:Int)==1)=true:=by rw[beq_iff_eq];omega
 have hmb:m< d.size:=by omega
 have H2:=Lh h2
 clear S hC k1 h2 h0
 go_enter Tryz.func173,Tryz.ntmps173
 go_wp2_with fail
 go_loopg [14,15] (m) (fun gg vi vj wr=>∃i j:Nat,vi= .int .i64 i∧vj= .int .i64 j∧a≤i∧i≤j∧j≤m∧j - i≤gg∧Aside (SWK encA 2 w0 blk off d wr)∧Aside ((∀x,a≤x→x< i→ltOf cfA d[m]! d[x]! =false)∧(∀x,j≤x→x< m→ltOf cfA d[m]! d[x]! =true)))
 case atStart=>exact⟨a,m,by go_num,by go_num,Nat.le_refl _,by omega,Nat.le_refl _,by omega,S0,Lh ⟨fun x k1 k2=>by omega,fun x k1 k2=>by omega⟩⟩
 case round=>
  clear S0
  obtain⟨i,j,rfl,rfl,hi,hij,hj,hg,S1,HI⟩:=hrel
  by_cases hlt:i< j
  ·
   have hltI:(i:Int)< (j:Int):=by omega
   obtain⟨H,hH⟩:∃H,(i+j) / 2=H:=⟨_,rfl⟩
   have hHz:((i:Int)+(j:Int)) / 2=(H:Int):=by omega
   have hHi:i≤H∧H< j:=by omega
   cases hlt1:ltOf cfA d[m]! d[H]! with
   | false=>
    have e1i:((m:Int)).toNat=m:=by omega
    have p1i:(0:Int)≤(m:Int):=by omega
    have b1i:(m:Int)< (d.size:Int):=by omega
    have e1j:((H:Int)).toNat=H:=by omega
    have p1j:(0:Int)≤(H:Int):=by omega
    have b1j:(H:Int)< (d.size:Int):=by omega
    obtain⟨x1,hx1⟩:∃x,x=d[m]! :=⟨_,rfl⟩
    obtain⟨y1,hy1⟩:∃x,x=d[H]! :=⟨_,rfl⟩
    have l1a:=fun n os=>((S1.out.grown n os).c R (by omega) (m) (by omega)).1
    have l1b:=fun n os=>((S1.out.grown n os).c R (by omega) (m) (by omega)).2.1
    have l1c:=fun n os=>((S1.out.grown n os).c R (by omega) (H) (by omega)).1
    have l1d:=fun n os=>((S1.out.grown n os).c R (by omega) (H) (by omega)).2.1
    rw[←hx1]at l1a l1b
    rw[←hy1]at l1c l1d
    have hc1:∀n os,Calls Tryz.prog 87 #[.agg #[.string (bs x1.n),.string (bs x1.v)],.agg #[.string (bs y1.n),.string (bs y1.v)]] (grow (wr.drewN n) os) fun e w'=>e= .returned (.int .i64 (cfA x1 y1))∧∃q os',w'=grow ((grow (wr.drewN n) os).drewN q) os':=fun n os=>S1.out.cmp HC.out (by omega) x1 y1 n os
    have hv1:¬cfA x1 y1< 0:=by rw[hx1,hy1];exact of_decide_eq_false hlt1
    have hd1:decide (cfA x1 y1< 0)=false:=by simp[hv1]
    generalize cfA x1 y1=cv1 at hc1 hv1 hd1
    clear hx1 hy1
    go_wp2_with fail
    go_quiet_grown (first | (go_at_fn 87;refine Calls.grown_of (hc1 _ _)))
    have S1t:Aside (SWK encA 2 w0 blk off d (grow (wr.drewN nq) osq)):=S1.out.grown nq osq
    clear l1a l1b l1c l1d hc1 S1
    generalize grow (wr.drewN nq) osq=w1 at S1t⊢
    clear nq osq
    go_wp2_with fail
    go_roundg (j - (H+1))
    case measure=>omega
    case rel=>exact⟨H+1,j,by go_num,rfl,by omega,by omega,hj,Nat.le_refl _,S1t,Lh ⟨fun x k1 k2=>swoA.ntrans _ _ _ hlt1 (srt_le swoA K1.out k1 (show x≤H by omega) (by omega)),HI.out.2⟩⟩
   | true=>
    have e1i:((m:Int)).toNat=m:=by omega
    have p1i:(0:Int)≤(m:Int):=by omega
    have b1i:(m:Int)< (d.size:Int):=by omega
    have e1j:((H:Int)).toNat=H:=by omega
    have p1j:(0:Int)≤(H:Int):=by omega
    have b1j:(H:Int)< (d.size:Int):=by omega
    obtain⟨x1,hx1⟩:∃x,x=d[m]! :=⟨_,rfl⟩
    obtain⟨y1,hy1⟩:∃x,x=d[H]! :=⟨_,rfl⟩
    have l1a:=fun n os=>((S1.out.grown n os).c R (by omega) (m) (by omega)).1
    have l1b:=fun n os=>((S1.out.grown n os).c R (by omega) (m) (by omega)).2.1
    have l1c:=fun n os=>((S1.out.grown n os).c R (by omega) (H) (by omega)).1
    have l1d:=fun n os=>((S1.out.grown n os).c R (by omega) (H) (by omega)).2.1
    rw[←hx1]at l1a l1b
    rw[←hy1]at l1c l1d
    have hc1:∀n os,Calls Tryz.prog 87 #[.agg #[.string (bs x1.n),.string (bs x1.v)],.agg #[.string (bs y1.n),.string (bs y1.v)]] (grow (wr.drewN n) os) fun e w'=>e= .returned (.int .i64 (cfA x1 y1))∧∃q os',w'=grow ((grow (wr.drewN n) os).drewN q) os':=fun n os=>S1.out.cmp HC.out (by omega) x1 y1 n os
    have hv1:cfA x1 y1< 0:=by rw[hx1,hy1];exact of_decide_eq_true hlt1
    have hd1:decide (cfA x1 y1< 0)=true:=by simp[hv1]
    generalize cfA x1 y1=cv1 at hc1 hv1 hd1
    clear hx1 hy1
    go_wp2_with fail
    go_quiet_grown (first | (go_at_fn 87;refine Calls.grown_of (hc1 _ _)))
    have S1t:Aside (SWK encA 2 w0 blk off d (grow (wr.drewN nq) osq)):=S1.out.grown nq osq
    clear l1a l1b l1c l1d hc1 S1
    generalize grow (wr.drewN nq) osq=w1 at S1t⊢
    clear nq osq
    go_wp2_with fail
    go_roundg (H - i)
    case measure=>omega
    case rel=>exact⟨i,H,rfl,by go_num,hi,by omega,by omega,Nat.le_refl _,S1t,Lh ⟨HI.out.1,fun x k1 k2=>lt_mono' K1.out (show a≤H by omega) k1 k2 hlt1⟩⟩
  ·
   have hltI:¬(i:Int)< (j:Int):=by omega
   obtain rfl:i=j:=by omega
   have MG:=Lh (merge_right (i:=i) swoA K1.out hi hj hmb HI.out.1 HI.out.2)
   go_wp2_with fail
   go_loopg [17] m (fun gg vk wr=>∃I q:Nat,vk= .int .i64 I∧Hid (I+q=m)∧q≤m - i∧I≤m∧i≤I∧I≤gg∧Aside (SWK encA 2 w0 blk off (dnR d m q) wr))
   case atStart=>exact⟨m,0,by go_num,Lh rfl,Nat.zero_le _,Nat.le_refl _,by omega,Nat.le_refl _,S1⟩
   case round=>
    clear S1
    obtain⟨I,q,rfl,hIq,hq,hIm,hiI,hgI,S2⟩:=hrel
    by_cases hlk:i< I
    ·
     have hlkI:(i:Int)< (I:Int):=by omega
     have hsk:(dnR d m q).size=d.size:=dnR_size d m q
     have HN:Hid (swp (dnR d m q) (m - q) (m - q - 1)=dnR d m (q+1)):=Lh rfl
     obtain⟨dk,hdk⟩:∃dk,dnR d m q=dk:=⟨_,rfl⟩
     rw[hdk]at S2 hsk HN
     rw[show m - q=I by have:=hIq.out;omega]at HN
     obtain⟨J,hJ⟩:∃J,I - 1=J:=⟨_,rfl⟩
     rw[hJ]at HN
     have hJ2:J< I∧I≤J+1:=by omega
     clear hdk hJ
     have eqi:((I:Int)).toNat=I:=by omega
     have pqi:(0:Int)≤(I:Int):=by omega
     have bqi:(I:Int)< (d.size:Int):=by omega
     have eqj:((I:Int) - 1).toNat=J:=by omega
     have pqj:(0:Int)≤(I:Int) - 1:=by omega
     have bqj:(I:Int) - 1< (d.size:Int):=by omega
     have S2q:Aside (SWK encA 2 w0 blk off (swp dk (I) (J)) ((((wr.setCell ⟨blk,off+(I)*2,none⟩ (.string (bs dk[J]!.n))).setCell ⟨blk,off+(I)*2+1,none⟩ (.string (bs dk[J]!.v))).setCell ⟨blk,off+(J)*2,none⟩ (.string (bs dk[I]!.n))).setCell ⟨blk,off+(J)*2+1,none⟩ (.string (bs dk[I]!.v))).drew):=S2.out.swapped R (I) (J) (by omega) (by omega)
     obtain⟨cq0,cq1,fq0,fq1⟩:=S2.out.c R (by omega) (I) (by omega)
     obtain⟨cq2,cq3,fq2,fq3⟩:=S2.out.c R (by omega) (J) (by omega)
     generalize dk[I]! =xIq at S2q cq0 cq1
     generalize dk[J]! =xJq at S2q cq2 cq3
     obtain⟨oiq,hoiq⟩:∃o,off+(I)*2=o:=⟨_,rfl⟩
     obtain⟨ojq,hojq⟩:∃o,off+(J)*2=o:=⟨_,rfl⟩
     have neqa:¬oiq=ojq:=by omega
     have neqb:¬oiq=ojq+1:=by omega
     have neqc:¬oiq+1=ojq:=by omega
     have neqd:¬oiq=oiq+1:=by omega
     have neqe:¬ojq=ojq+1:=by omega
     rw[hoiq,hojq]at S2q
     rw[hoiq]at cq0 cq1 fq0 fq1
     rw[hojq]at cq2 cq3 fq2 fq3
     clear S2
     go_wp2_with fail
     go_big_region_o
     clear cq0 cq1 cq2 cq3 fq0 fq1 fq2 fq3 neqa neqb neqc neqd neqe hoiq hojq
     generalize ((((wr.setCell ⟨blk,oiq,none⟩ (.string (bs xJq.n))).setCell ⟨blk,oiq+1,none⟩ (.string (bs xJq.v))).setCell ⟨blk,ojq,none⟩ (.string (bs xIq.n))).setCell ⟨blk,ojq+1,none⟩ (.string (bs xIq.v))).drew=wq at S2q⊢
     go_wp2_with fail
     go_roundg (I - 1)
     case measure=>omega
     case rel=>exact⟨J,q+1,by go_num,Lh (by have:=hIq.out;omega),by have:=hIq.out;omega,by omega,by omega,by omega,by rw[←HN.out];exact S2q⟩
    ·
     have hlkI:¬(i:Int)< (I:Int):=by omega
     obtain rfl:I=i:=by omega
     obtain rfl:q=m - I:=by have:=hIq.out;omega
     go_wp2_with fail
     (try simp only[Exit.inBlock,Exit.then])
     refine bodyPost_ret (results_none rfl _ _ _) rfl ?_
     exact⟨rfl,_,by rw[H2.out];exact(MG.out).1,by rw[H2.out];exact(MG.out).2,S2.out⟩
end Go.Proofs.YtcfibjiikhnfhaaGreatDoor
