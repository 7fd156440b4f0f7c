/-
  Laws drawn from elder texts. Helper lemmas;no statement of the seat is proved here.
-/
import Derived.Test.YtngmgjodcnknoaaGreatDoorU2
namespace Go.Proofs.YtngmgjodcnknoaaGreatDoor
open Go.RowKit
set_option maxHeartbeats 32000000
set_option maxRecDepth 100000
set_option linter.unusedVariables false
set_option linter.unusedSimpArgs false
theorem small_any (m:Nat) (hm:m≤1048576):∀(N:Nat) (a:Node) (p:Nat→Prop) (va vk:Value) (w:World),nsz a≤N→cntN a≤1048576→Rep w p va (attrsD a.attrs)→Rep w p vk (nodesD a.kids)→
    Calls Tryz.prog 75 #[.agg #[.int .i64 a.kind,.string (bs a.name),.string (bs a.text),va,vk],.int .i64 m] w fun e w'=>e= .returned (.int .i64 (smallN m a))∧Ext w w':=by
  intro N
  induction N with
  | zero=>intro a p va vk w hN;cases a;rw[nsz]at hN;omega
  | succ N ih=>
    intro a p va vk w hN hcnt hva hvk
    have hkid:=fun i h=>kid_lt a i h
    obtain⟨k,nm,tx,la,ks⟩:=a
    simp only[Node.kind,Node.name,Node.text,Node.attrs,Node.kids]at*
    obtain⟨ba,ca,rfl,ha1,ha2⟩:=hva.count z_attr kA
    obtain⟨bk,ck,rfl,hk1,hk2⟩:=hvk.count z_node kA
    obtain⟨R,hR⟩:∃R,smallN m (.mk k nm tx la ks)=R:=⟨_,rfl⟩
    rw[hR]
    rw[smallN]at hR
    rw[cntN]at hcnt
    have HM:Hid (∀(i:Nat) (h:i< ks.length),nsz ks[i]≤N):=Lh (fun i h=>by have:=hkid i h;omega)
    have HR:Hid (smallL m (smallA m (1+nm.length+tx.length) (la.drop 0)) ks=R):=Lh hR
    have HC0:Hid (1+nm.length+tx.length+cntA (la.drop 0)+cntL ks≤1048576):=Lh hcnt
    have b1:(bs nm).size≤1048576:=by rw[bs_size];omega
    have b2:(bs tx).size≤1048576:=by rw[bs_size];omega
    have hm0:(m:Int)≤1048576:=by omega
    clear hkid hN hR hcnt
    have IH:=Lh ih
    clear ih
    go_enter Tryz.func75,Tryz.ntmps75
    go_wp2_with fail
    obtain⟨w1,hw1⟩:∃w1,(w.alloc (.cells #[.int .i64 k,.string (bs nm),.string (bs tx),.slice ba la.length ca,.slice bk ks.length ck] 66))=w1:=⟨_,rfl⟩
    have hE1:Ext w w1:=by rw[←hw1];exact(Ext.refl w).alloc _
    have l0:w.heap.size< w1.heap.size:=by rw[←hw1];simp
    have c3:w1.cell? ⟨w.heap.size,3,none⟩=some (.slice ba la.length ca):=by rw[←hw1];simp[go_sem]
    have c4:w1.cell? ⟨w.heap.size,4,none⟩=some (.slice bk ks.length ck):=by rw[←hw1];simp[go_sem]
    rw[hw1]
    clear hw1
    go_loopw [5,6] (fun c t wr=>∃(n i:Nat),c= .int .i64 n∧t= .int .i64 i∧i≤la.length∧n≤1048576∧Ext w1 wr∧Hid (smallL m (smallA m n (la.drop i)) ks=R)∧Hid (n+cntA (la.drop i)+cntL ks≤1048576)) (fun _ t _=>downV la.length t)
    case atStart=>exact⟨1+(bs nm).size+(bs tx).size,0,by go_num,rfl,Nat.zero_le _,by have:=HC0.out;simp only[bs_size];omega,Ext.refl _,Lh (by simp only[bs_size];exact HR.out),Lh (by have:=HC0.out;simp only[bs_size];omega)⟩
    case round=>
      obtain⟨n,i,rfl,rfl,hi,hn,hX,HI,HQ⟩:=hrel
      have c3r:=hX.keep l0 c3
      have c4r:=hX.keep l0 c4
      have hn0:(n:Int)≤1048576:=by omega
      have n0:=nZ0 n
      have hi0:=nZ0 i
      have m0:=nZ0 m
      by_cases hgo:i< la.length∧n≤m
      · obtain⟨hlt,hle⟩:=hgo
        have hlI:(i:Int)< (la.length:Int):=by omega
        have hleI:(n:Int)≤(m:Int):=by omega
        obtain⟨g,o,rfl,hb,_,e1,e2⟩:=attr_at (hva.ext (hE1.trans hX)) i hlt
        have h1:=cntA_get la i hlt
        have HS:Hid (smallA m n (la.drop i)=smallA m (n+1+la[i].n.length+la[i].v.length) (la.drop (i+1))):=Lh (by rw[smallA_get m n la i hlt,if_pos hle])
        obtain⟨x,hx⟩:∃x,la[i]=x:=⟨_,rfl⟩
        rw[hx]at e1 e2 HS h1
        have hq:=HQ.out
        have x1:(bs x.n).size≤1048576:=by rw[bs_size];omega
        have x2:(bs x.v).size≤1048576:=by rw[bs_size];omega
        have HN:Hid (smallL m (smallA m (n+1+(bs x.n).size+(bs x.v).size) (la.drop (i+1))) ks=R):=Lh (by rw[←HI.out,HS.out,bs_size,bs_size])
        have HQN:Hid (n+1+(bs x.n).size+(bs x.v).size+cntA (la.drop (i+1))+cntL ks≤1048576):=Lh (by rw[bs_size,bs_size];omega)
        have hnb:n+1+(bs x.n).size+(bs x.v).size≤1048576:=by have:=HQN.out;omega
        have HXX:=Lh hX
        have s1:IntKind.i64.wrap ((n:Int)+1)=(n:Int)+1:=IntWalk.i64_in _ kA
        have s2:IntKind.i64.wrap ((n:Int)+1+((bs x.n).size:Int))=(n:Int)+1+((bs x.n).size:Int):=IntWalk.i64_in _ kA
        have s3:IntKind.i64.wrap ((n:Int)+1+((bs x.n).size:Int)+((bs x.v).size:Int))=(n:Int)+1+((bs x.n).size:Int)+((bs x.v).size:Int):=IntWalk.i64_in _ kA
        clear hq h1 hx HI HQ HS
        go_wp2_with fail
        go_quiet (fail)
        clear s1 s2 s3
        go_wp2_with fail
        go_roundw
        case rel=>exact⟨n+1+(bs x.n).size+(bs x.v).size,i+1,by go_num,by go_num,by omega,hnb,HXX.out.drewN _,HN,HQN⟩
        case measure=>exact mZ
      · have HS:Hid (smallA m n (la.drop i)=n):=Lh (by
          by_cases hlt:i< la.length
          · rw[smallA_get m n la i hlt,if_neg kA]
          · rw[List.drop_of_length_le kA];rfl)
        have HN:Hid (smallL m n (ks.drop 0)=R):=Lh (by rw[←HI.out,HS.out];rfl)
        have HQN:Hid (n+cntL (ks.drop 0)≤1048576):=Lh (by have:=HQ.out;rw[List.drop_zero];omega)
        have hend:Hid (¬(i< la.length∧n≤m)):=Lh hgo
        obtain⟨w2,hw2⟩:∃w2,w2=wr:=⟨_,rfl⟩
        subst hw2
        clear HI HQ HS hgo
        have key:∀(b:Bool),Hid (((decide ((i:Int)< (la.length:Int))) && decide ((n:Int)≤(m:Int)))=b)→b=false:=fun b hb=>by
          have h1:=hend.out
          rw[←hb.out,Bool.and_eq_false_iff]
          by_cases h2:i< la.length
          · exact Or.inr (decide_eq_false kA)
          · exact Or.inl (decide_eq_false kA)
        clear key
        by_cases hlt:i< la.length
        all_goals
          first
          | (have hlI:(i:Int)< (la.length:Int):=by omega
             have hleI:¬(n:Int)≤(m:Int):=by have:=hend.out;omega
             clear hlt hend;go_wp2_with fail)
          | (have hlI:¬(i:Int)< (la.length:Int):=by omega
             clear hlt hend;go_wp2_with fail)
        all_goals
          go_loopw [5,7] (fun c t wr=>∃(n i:Nat),c= .int .i64 n∧t= .int .i64 i∧i≤ks.length∧n≤1048576∧Ext w1 wr∧Hid (smallL m n (ks.drop i)=R)∧Hid (n+cntL (ks.drop i)≤1048576)) (fun _ t _=>downV ks.length t)
          case atStart=>exact⟨n,0,rfl,rfl,Nat.zero_le _,hn,hX,HN,HQN⟩
          case round=>
            clear HN HQN hn hn0 n0 hi0 hi
            obtain⟨n,i,rfl,rfl,hi,hn,hX2,HI,HQ⟩:=hrel
            have c4r:=hX2.keep l0 c4
            have hn0:(n:Int)≤1048576:=by omega
            have n0:=nZ0 n
            have hi0:=nZ0 i
            by_cases hlt:i< ks.length
            · have hlI:(i:Int)< (ks.length:Int):=by omega
              by_cases hle:n≤m
              · have hleI:(n:Int)≤(m:Int):=by omega
                obtain⟨g,o,x1,x2,rfl,hb,_,e0,e1,e2,e3,e4,hr1,hr2⟩:=node_at (hvk.ext (hE1.trans hX2)) i hlt
                have h1:=cntL_get ks i hlt
                have HS:Hid (smallL m n (ks.drop i)=smallL m (n+smallN m ks[i]) (ks.drop (i+1))):=Lh (by rw[smallL_get m n ks i hlt,if_pos hle])
                have h2:=smallN_le m ks[i]
                have hNi:=HM.out i hlt
                obtain⟨x,hx⟩:∃x,ks[i]=x:=⟨_,rfl⟩
                rw[hx]at e0 e1 e2 HS h1 h2 hr1 hr2 hNi
                have hq:=HQ.out
                obtain⟨s,hs⟩:∃s,smallN m x=s:=⟨_,rfl⟩
                have HC:=Lh fun W (hE:Ext wr W)=>IH.out x p x1 x2 W hNi kA (hr1.ext hE) (hr2.ext hE)
                rw[hs]at HS h2 HC
                have HN:Hid (smallL m (n+s) (ks.drop (i+1))=R):=Lh (by rw[←HI.out,HS.out])
                have HQN:Hid (n+s+cntL (ks.drop (i+1))≤1048576):=Lh kA
                have hnb:n+s≤1048576:=by omega
                have s0:=nZ0 s
                have s1:(s:Int)≤1048576:=by omega
                clear hq h1 h2 hx HI HQ HS hs hNi
                go_wp2_with fail
                refine(HC.out _ (Ext.refl _)).mono ?_
                rintro e w3 ⟨rfl,hB3⟩
                go_wp2_with fail
                go_roundw
                case rel=>exact⟨n+s,i+1,by go_num,by go_num,by omega,hnb,hX2.trans hB3,HN,HQN⟩
                case measure=>exact mZ
              · have hleI:¬(n:Int)≤(m:Int):=by omega
                have HS:Hid (n=R):=Lh (by rw[←HI.out,smallL_get m n ks i hlt,if_neg hle])
                clear HI HQ
                go_wp2_with fail
                go_ret
                exact⟨ret_int (by rw[HS.out]),hE1.trans hX2⟩
            · have hlI:¬(i:Int)< (ks.length:Int):=by omega
              have HS:Hid (n=R):=Lh (by rw[←HI.out,List.drop_of_length_le kA];rw[smallL])
              clear HI HQ
              go_wp2_with fail
              go_ret
              exact⟨ret_int (by rw[HS.out]),hE1.trans hX2⟩
theorem bigsmall_any (m:Nat) (hm:m≤1048576) (a:Node) (p:Nat→Prop) (va vk:Value) (w:World) (hc:cntN a≤1048576) (hva:Rep w p va (attrsD a.attrs)) (hvk:Rep w p vk (nodesD a.kids)):
    Calls Tryz.prog 45 #[.agg #[.int .i64 a.kind,.string (bs a.name),.string (bs a.text),va,vk],.int .i64 m] w fun e w'=>e= .returned (.bool (decide (smallN m a≤m)))∧Ext w w':=by
  have HC:=Lh fun W (hE:Ext w W)=>small_any m hm (nsz a) a p va vk W (Nat.le_refl _) hc (hva.ext hE) (hvk.ext hE)
  obtain⟨ba,ca,rfl,ha1,ha2⟩:=hva.count z_attr kA
  obtain⟨bk,ck,rfl,hk1,hk2⟩:=hvk.count z_node kA
  obtain⟨s,hs⟩:∃s,smallN m a=s:=⟨_,rfl⟩
  rw[hs]at HC⊢
  clear hs hva hvk hc
  go_enter Tryz.func45,Tryz.ntmps45
  go_wp2_with fail
  refine(HC.out _ ((Ext.refl w).alloc _)).mono ?_
  rintro e w1 ⟨rfl,hB1⟩
  go_wp2_with fail
  go_ret
  exact⟨ret_bool (by first | rfl | exact decide_eq_decide.2 kA),((Ext.refl w).alloc _).trans hB1⟩
def SomeB (P:Bool→Prop) (e:Ending):Prop:=∃b,e= .returned (.bool b)∧P b
theorem Ext.grown_own {a w w':World} {o:Obj} {e:TypeId} {n s:Nat} {v:Value} {xs:List Value} (h:Ext a w) (hown:w.ownsRow a.heap.size e s v n xs) (hg:(w.alloc o).grownBy w' v.ownBlock):Ext a w':=
  Below.grown (h.alloc o) hg (Below.size (h.alloc o)) fun k hk=>(hown.lt k hk).1
def Ret (p:Nat→Prop) (D:DV) (e:Ending) (w':World):Prop:=∃v,e= .returned v∧Rep w' p v D
theorem Ret.ok {p q:Nat→Prop} {D:DV} {e:Ending} {w':World} (h:Ret p D e w') (hpq:∀b,p b→q b):Ret q D e w':=by
  obtain⟨v,he,hr⟩:=h;exact⟨v,he,hr.ok hpq⟩
theorem Own.rows {w:World} {p:Nat→Prop} {base z n:Nat} {e:TypeId} {v:Value} {es:List DV} (h:Own w p base e z v n es):∃us,w.ownsRow base e z v n us∧Reps w (fun b=>p b∧some b≠v.ownBlock∧b< w.heap.size) us es:=h
def flV (F:List Bool):Array Value:=(F.map Value.bool).toArray
theorem flV_at (F:List Bool) (j:Nat) (h:j< F.length):(flV F)[j]? =some (.bool (F.getD j false)):=by
  unfold flV;simp[h]
def runE (f:Nat→Bool):Nat→Nat→Nat
  | 0,t=>t
  | k+1,t=>if t< 200∧f (t+1)=true then runE f k (t+1)else t
theorem runE_ge (f:Nat→Bool):∀(k t:Nat),t≤runE f k t∧(t≤200→runE f k t≤200)
  | 0,t=>by simp[runE]
  | k+1,t=>by
    unfold runE
    split
    · have:=runE_ge f k (t+1);omega
    · omega
def spansV (f:Nat→Bool):Nat→Nat→List Span
  | 0,_=> []
  | k+1,v=>if v≤200 then(if f v=true then⟨(v:Int),(runE f (200 - v) v:Int)⟩::spansV f k (runE f (200 - v) v+1)else spansV f k (v+1))else []
theorem spansV_fuel (f:Nat→Bool):∀(k k' v:Nat),201 - v≤k→201 - v≤k'→spansV f k v=spansV f k' v
  | 0,0,v,_,_=>rfl
  | 0,k'+1,v,h,_=>by unfold spansV;rw[if_neg kA]
  | k+1,0,v,_,h=>by unfold spansV;rw[if_neg kA]
  | k+1,k'+1,v,h,h'=>by
    unfold spansV
    have:=(runE_ge f (200 - v) v).1
    split
    · split
      · rw[spansV_fuel f k k' _ kA kA]
      · rw[spansV_fuel f k k' _ kA kA]
    · rfl
def spansOf (f:Nat→Bool):List Span:=spansV f 200 1
theorem infoSpan:(Tryz.prog.info? 89).map (fun i=>(i.zero,i.size,i.bytes))=some (some (.agg #[.int .i64 0,.int .i64 0]),2,16):=by kernel_rfl
theorem new_two {w:World} {a b:Value} {e:TypeId}:∀(j:Nat) (v:Value),[a,b][j]? =some v→(w.alloc (.cells #[a,b] e)).cell? ((⟨w.heap.size,0,none⟩:Addr).add j)=some v:=by
  intro j v hj
  have e0:(⟨w.heap.size,0,none⟩:Addr).add j=⟨w.heap.size,0+j,none⟩:=by unfold Addr.add;split<;> simp_all
  rw[e0,Nat.zero_add]
  have h:=World.cell?_alloc_mark w #[a,b] e (0,0) j
  rw[h,←hj];simp
theorem spansv_any (F:List Bool) (hF:F.length=201) (f:Nat→Bool) (hf:∀j,f j=F.getD j false) (w:World):
    Calls Tryz.prog 60 #[.agg (flV F)] w fun e w'=>Ret (fun b=>w.heap.size≤b) (spansD (spansOf f)) e w'∧Ext w w':=by
  obtain⟨R,hR⟩:∃R,spansOf f=R:=⟨_,rfl⟩
  rw[hR]
  have HR:=Lh hR
  have HF:=Lh hF
  have Hf:=Lh hf
  clear hR hf
  obtain⟨i0,hi,hz0,hz1,hz2⟩:=info_parts infoSpan
  go_enter Tryz.func60,Tryz.ntmps60
  go_wp2_with fail
  obtain⟨w1,hw1⟩:∃w1,(w.alloc (.cells (flV F) 128))=w1:=⟨_,rfl⟩
  have hE1:Ext w w1:=by rw[←hw1];exact(Ext.refl w).alloc _
  have l0:w.heap.size< w1.heap.size:=by rw[←hw1];simp
  have hc:∀j,j< 201→w1.cell? ⟨w.heap.size,j,none⟩=some (.bool (f j)):=fun j hj=>by
    rw[←hw1,World.cell?_alloc_mark,flV_at F j (by rw[HF.out];exact hj),Hf.out]
  have HC:=Lh hc
  rw[hw1]
  clear hw1 hc hF
  go_loopw [3,4,5] (fun o t _ wr=>∃(v:Nat) (L:List Span) (dv:Value),t= .int .i64 v∧dv=o∧1≤v∧v≤201∧L.length< v∧Own wr (fun _=>False) w1.heap.size 89 2 dv L.length (L.flatMap spanC)∧Ext w1 wr∧Hid (L++spansV f (201 - v) v=R)) (fun _ t _ _=>downV 201 t)
  case atStart=>exact⟨1,[],_,rfl,rfl,Nat.le_refl _,by omega,by simp,Own.nil _ _ _ _ _,Ext.refl _,HR⟩
  case round=>
    obtain⟨v,L,dv,rfl,rfl,hv1,hv2,hL,hown,hX,HI⟩:=hrel
    have hv0:=nZ0 v
    have hwz:=hX.size
    by_cases hle:v≤200
    · have hleI:(v:Int)≤200:=by omega
      have cv:=hX.keep l0 (HC.out v kA)
      have HS:Hid (spansV f (201 - v) v=if f v=true then⟨(v:Int),(runE f (200 - v) v:Int)⟩::spansV f (200 - v) (runE f (200 - v) v+1)else spansV f (200 - v) (v+1)):=Lh (by rw[show 201 - v=(200 - v)+1 by omega,spansV,if_pos hle])
      cases hfv:f v with
      | false=>
        rw[hfv]at cv
        have HN:Hid (L++spansV f (201 - (v+1)) (v+1)=R):=Lh (by rw[←HI.out,HS.out,hfv,if_neg kD,show 201 - (v+1)=200 - v by omega])
        clear HS HI hfv
        go_wp2_with fail
        go_roundw
        case rel=>exact⟨v+1,L,dv,by go_num,rfl,by omega,by omega,by omega,hown,hX,HN⟩
        case measure=>exact mZ
      | true=>
        rw[hfv]at cv
        have hrun:=runE_ge f (200 - v) v
        obtain⟨E,hE⟩:∃E,runE f (200 - v) v=E:=⟨_,rfl⟩
        have HE:=Lh hE
        rw[hE]at HS hrun
        have hE200:=hrun.2 hle
        have HN:Hid ((L++ [⟨(v:Int),(E:Int)⟩])++spansV f (201 - (E+1)) (E+1)=R):=Lh (by
          rw[←HI.out,HS.out,hfv,if_pos rfl,List.append_assoc,spansV_fuel f (201 - (E+1)) (200 - v) (E+1) kA kA];rfl)
        have hvE:=hrun.1
        clear HS HI hfv hE hrun
        obtain⟨w2,hw2⟩:∃w2,w2=wr:=⟨_,rfl⟩
        subst hw2
        go_wp2_with fail
        go_loopw [5] (fun t wr=>∃k:Nat,t= .int .i64 k∧v≤k∧k≤200∧wr=w2∧Hid (runE f (200 - k) k=E)) (fun t _=>downV 201 t)
        case atStart=>exact⟨v,rfl,Nat.le_refl _,hle,rfl,HE⟩
        case round=>
          obtain⟨k,rfl,hk1,hk2,rfl,HK⟩:=hrel
          have hk0:=nZ0 k
          by_cases hk:k< 200
          · have hkI:(k:Int)< 200:=by omega
            have ck:=hX.keep l0 (HC.out (k+1) kA)
            have HS:Hid (runE f (200 - k) k=if f (k+1)=true then runE f (200 - (k+1)) (k+1)else k):=Lh (by
              rw[show 200 - k=(200 - (k+1))+1 by omega];rw[runE]
              by_cases h:f (k+1)=true
              · rw[if_pos ⟨hk,h⟩,if_pos h]
              · rw[if_neg (fun e=>h e.2),if_neg h])
            cases hfk:f (k+1)with
            | true=>
              rw[hfk]at ck
              have HKN:Hid (runE f (200 - (k+1)) (k+1)=E):=Lh (by rw[←HK.out,HS.out,hfk,if_pos rfl])
              clear HS HK hfk
              go_wp2_with fail
              go_roundw
              case rel=>exact⟨k+1,by go_num,by omega,by omega,by first | rfl | trivial,HKN⟩
              case measure=>exact mZ
            | false=>
              rw[hfk]at ck
              have hkE:k=E:=by rw[←HK.out,HS.out,hfk,if_neg kD]
              obtain rfl:=hkE
              clear HS HK hfk
              obtain⟨us,hrow,hreps⟩:=hown.rows
              go_wp2_with (at_builtin;refine wpList_append_own_at _ rfl (.tmp 25) (.tmp 29) _ rfl w1.heap.size 89 i0 (.agg #[.int .i64 0,.int .i64 0]) 2 16 Tryz.underlying28 hi hz0 hz1 hz2 rfl kD dv L.length us rfl (hrow.alloc _) ⟨wr.heap.size,0,none⟩ 1 1 [.int .i64 v,.int .i64 k] rfl rfl new_two kG kC kA kM ?_;intro v2 w3 hown2 hgrow2 _ hat2)
              have hX2:Ext w1 w3:=hX.grown_own hrow hgrow2
              have hO2:Own w3 (fun _=>False) w1.heap.size 89 2 v2 (L++ [(⟨(v:Int),(k:Int)⟩:Span)]).length ((L++ [(⟨(v:Int),(k:Int)⟩:Span)]).flatMap spanC):=by
                rw[List.length_append,List.flatMap_append]
                exact Own.push ((hreps.ext ((Ext.refl wr).alloc _)).ok fun b hb=>⟨hb.1,hb.2.1,by simp;omega⟩) (Reps.cons (Rep.int _ _ _ _) (Reps.cons (Rep.int _ _ _ _) (Reps.nil _ _))) hown2 hgrow2 hat2
              clear hown2 hgrow2 hrow hreps hown hX hat2
              go_wp2_with fail
              go_roundw
              case rel=>exact⟨k+1,L++ [⟨(v:Int),(k:Int)⟩],v2,by go_num,rfl,by omega,by omega,by rw[List.length_append];simp;omega,hO2,hX2,HN⟩
              case measure=>exact mZ
          · have hkI:¬(k:Int)< 200:=by omega
            have hkE:k=E:=by
              have h1:=HK.out
              have h2:=runE_ge f (200 - k) k
              rw[h1]at h2;omega
            obtain rfl:=hkE
            clear HK
            obtain⟨us,hrow,hreps⟩:=hown.rows
            go_wp2_with (at_builtin;refine wpList_append_own_at _ rfl (.tmp 25) (.tmp 29) _ rfl w1.heap.size 89 i0 (.agg #[.int .i64 0,.int .i64 0]) 2 16 Tryz.underlying28 hi hz0 hz1 hz2 rfl kD dv L.length us rfl (hrow.alloc _) ⟨wr.heap.size,0,none⟩ 1 1 [.int .i64 v,.int .i64 k] rfl rfl new_two kG kC kA kM ?_;intro v2 w3 hown2 hgrow2 _ hat2)
            have hX2:Ext w1 w3:=hX.grown_own hrow hgrow2
            have hO2:Own w3 (fun _=>False) w1.heap.size 89 2 v2 (L++ [(⟨(v:Int),(k:Int)⟩:Span)]).length ((L++ [(⟨(v:Int),(k:Int)⟩:Span)]).flatMap spanC):=by
              rw[List.length_append,List.flatMap_append]
              exact Own.push ((hreps.ext ((Ext.refl wr).alloc _)).ok fun b hb=>⟨hb.1,hb.2.1,by simp;omega⟩) (Reps.cons (Rep.int _ _ _ _) (Reps.cons (Rep.int _ _ _ _) (Reps.nil _ _))) hown2 hgrow2 hat2
            clear hown2 hgrow2 hrow hreps hown hX hat2
            go_wp2_with fail
            go_roundw
            case rel=>exact⟨k+1,L++ [⟨(v:Int),(k:Int)⟩],v2,by go_num,rfl,by omega,by omega,by rw[List.length_append];simp;omega,hO2,hX2,HN⟩
            case measure=>exact mZ
    · have hleI:¬(v:Int)≤200:=by omega
      have HN:Hid (L=R):=Lh (by
        have:=HI.out
        rw[show 201 - v=0 by omega]at this
        rw[←this];simp[spansV])
      clear HI
      go_wp2_with fail
      go_ret
      refine⟨⟨dv,rfl,?_⟩,hE1.trans hX⟩
      rw[←HN.out]
      exact hown.rep.ok (fun b hb=>by rcases hb with h | h;exact h.elim;have:=hE1.size;omega)
theorem blk_cell {w:World} {g k:Nat} {cs:Array Value} {t:TypeId} {u:Value} (h:w.heap[g]? =some (.cells cs t (0,0))) (hk:cs[k]? =some u):w.cell? ⟨g,k,none⟩=some u:=by simp[World.cell?,h,hk]
theorem blk_free {w:World} {g k:Nat} {cs:Array Value} {t:TypeId} (h:w.heap[g]? =some (.cells cs t (0,0))):w.frozen? ⟨g,k,none⟩=false:=by simp[World.frozen?,h]
theorem blk_lt {w:World} {g:Nat} {o:Obj} (h:w.heap[g]? =some o):g< w.heap.size:=by
  rcases Nat.lt_or_ge g w.heap.size with h' | h'
  · exact h'
  · simp[Array.getElem?_eq_none h']at h
theorem blk_set {w:World} {g k:Nat} {cs:Array Value} {t:TypeId} {u:Value} (h:w.heap[g]? =some (.cells cs t (0,0))):(w.setCell ⟨g,k,none⟩ u).heap[g]? =some (.cells (cs.setIfInBounds k u) t (0,0)):=by
  have hlt:=blk_lt h
  have h':w.heap[g]= .cells cs t (0,0):=by simpa [Array.getElem?_eq_getElem hlt]using h
  show(w.heap.modify g _)[g]? =_
  rw[Array.getElem?_eq_getElem (by simpa using hlt),Array.getElem_modify_self,h']
  rfl
theorem flV_set (F:List Bool) (k:Nat) (b:Bool):(flV F).setIfInBounds k (.bool b)=flV (F.set k b):=by
  unfold flV
  apply Array.toList_inj.1
  simp[List.map_set]
def flOf (l:List Int) (j:Nat):Bool:=decide (1≤j∧j≤200∧(j:Int)∈l)
def intsD (l:List Int):DV:= .s 1 (l.flatMap fun x=> [intD x])
theorem z_int (x:Int):([intD x]:List DV).length=1:=rfl
theorem int_at {w:World} {p:Nat→Prop} {a:Option Addr} {len cap:Nat} {l:List Int} (h:Rep w p (.slice a len cap) (intsD l)) (i:Nat) (hi:i< l.length):
    ∃b off,a=some ⟨b,off,none⟩∧b< w.heap.size∧p b∧w.cell? ⟨b,off+i,none⟩=some (.int .i64 l[i]):=by
  obtain⟨b,off,ha,hb,hp,hc⟩:=elem_at z_int h kA i hi
  obtain⟨u,hu,hr⟩:=hc 0 _ rfl
  rw[Nat.mul_one,Nat.add_zero]at hu
  exact⟨b,off,ha,hb,hp,by rw[hu,hr.is]⟩
theorem zero103:Tryz.zeroCells128=flV (List.replicate 201 false):=by kernel_rfl
theorem size103:(Tryz.prog.info? 128).map (·.size)=some 201:=by kernel_rfl
theorem fl_step (l:List Int) (i:Nat) (h:i< l.length) (j:Nat):flOf (l.take (i+1)) j=(flOf (l.take i) j || (decide (1≤j∧j≤200) && decide ((j:Int)=l[i]))):=by
  unfold flOf
  rw[List.take_add_one,List.getElem?_eq_getElem h]
  simp only[Option.toList_some,List.mem_append,List.mem_singleton]
  rw[Bool.eq_iff_iff]
  simp only[Bool.or_eq_true,Bool.and_eq_true,decide_eq_true_iff]
  constructor
  · rintro⟨a,b,c | c⟩
    · exact Or.inl ⟨a,b,c⟩
    · exact Or.inr ⟨⟨a,b⟩,c⟩
  · rintro(⟨a,b,c⟩ | ⟨⟨a,b⟩,c⟩)
    · exact⟨a,b,Or.inl c⟩
    · exact⟨a,b,Or.inr c⟩
theorem fl_none (j:Nat):(List.replicate 201 false).getD j false=flOf [] j:=by
  unfold flOf
  rw[List.getD_eq_getElem?_getD,List.getElem?_replicate]
  split<;> simp
theorem of_any (p:Nat→Prop) (l:List Int) (v:Value) (w:World) (h:Rep w p v (intsD l)):
    Calls Tryz.prog 36 #[v] w fun e w'=>Ret (fun b=>w.heap.size≤b) (spansD (spansOf (flOf l))) e w'∧Ext w w':=by
  obtain⟨a,c,rfl,hc1,hc2⟩:=h.count z_int kA
  go_enter Tryz.func36,Tryz.ntmps36
  go_wp2_with fail
  obtain⟨w1,hw1⟩:∃w1,(w.alloc (.cells Tryz.zeroCells128 128))=w1:=⟨_,rfl⟩
  have hE1:Ext w w1:=by rw[←hw1];exact(Ext.refl w).alloc _
  have hb1:w1.heap[w.heap.size]? =some (.cells (flV (List.replicate 201 false)) 128 (0,0)):=by rw[←hw1,zero103];exact Array.getElem?_push_size
  have HB1:=Lh hb1
  rw[hw1]
  clear hw1 hb1
  go_loopw [4] (fun t wr=>∃(i:Nat) (F:List Bool),t= .int .i64 i∧i≤l.length∧Hid (F.length=201∧wr.heap[w.heap.size]? =some (.cells (flV F) 128 (0,0))∧∀j,F.getD j false=flOf (l.take i) j)∧Ext w wr) (fun t _=>downV l.length t)
  case atStart=>exact⟨0,_,rfl,Nat.zero_le _,Lh ⟨List.length_replicate ..,HB1.out,fun j=>fl_none j⟩,hE1⟩
  case round=>
    obtain⟨i,F,rfl,hi,HF,hX⟩:=hrel
    have hi0:=nZ0 i
    have lg:w.heap.size< wr.heap.size:=blk_lt HF.out.2.1
    by_cases hlt:i< l.length
    · have hlI:(i:Int)< (l.length:Int):=by omega
      obtain⟨g,o,rfl,hgb,hp,hc⟩:=int_at (h.ext hX) i hlt
      have HT:Hid (∀j,flOf (l.take (i+1)) j=(flOf (l.take i) j || (decide (1≤j∧j≤200) && decide ((j:Int)=l[i])))):=Lh (fun j=>fl_step l i hlt j)
      obtain⟨x,hx⟩:∃x,l[i]=x:=⟨_,rfl⟩
      rw[hx]at hc HT
      clear hx
      by_cases hr:1≤x∧x≤200
      · obtain⟨k,hk⟩:∃k:Nat,x=(k:Int):=⟨x.toNat,by omega⟩
        subst hk
        have r1:(1:Int)≤(k:Int):=hr.1
        have r2:(k:Int)≤200:=hr.2
        have k0:=nZ0 k
        have k201:(k:Int)< 201:=by omega
        have hcur:wr.cell? ⟨w.heap.size,k,none⟩=some (.bool (F.getD k false)):=blk_cell HF.out.2.1 (flV_at F k (by have:=HF.out.1;omega))
        have hfr:wr.frozen? ⟨w.heap.size,k,none⟩=false:=blk_free HF.out.2.1
        have HFN:Hid ((F.set k true).length=201∧(wr.setCell ⟨w.heap.size,k,none⟩ (.bool true)).heap[w.heap.size]? =some (.cells (flV (F.set k true)) 128 (0,0))∧∀j,(F.set k true).getD j false=flOf (l.take (i+1)) j):=by
          obtain⟨f1,f2,f3⟩:=HF.out
          refine Lh ⟨by rw[List.length_set];exact f1,by rw[blk_set f2,flV_set],fun j=> ?_⟩
          rw[HT.out j,←f3 j]
          rw[List.getD_eq_getElem?_getD,List.getD_eq_getElem?_getD,List.getElem?_set]
          by_cases hj:k=j
          · subst hj
            rw[if_pos rfl,if_pos kA]
            simp;omega
          · rw[if_neg hj]
            rw[show decide ((j:Int)=(k:Int))=false from decide_eq_false kA];simp
        clear HF HT hr
        go_wp2_with fail
        go_roundw
        case rel=>exact⟨i+1,F.set k true,by go_num,by omega,HFN,hX.set (by dsimp only;omega) _⟩
        case measure=>exact mZ
      · have HFN:Hid (F.length=201∧wr.heap[w.heap.size]? =some (.cells (flV F) 128 (0,0))∧∀j,F.getD j false=flOf (l.take (i+1)) j):=by
          obtain⟨f1,f2,f3⟩:=HF.out
          refine Lh ⟨f1,f2,fun j=> ?_⟩
          rw[HT.out j,f3 j]
          rw[show(decide (1≤j∧j≤200) && decide ((j:Int)=x))=false from by rw[Bool.and_eq_false_iff];by_cases h1:(j:Int)=x;exact Or.inl (decide_eq_false kA);exact Or.inr (decide_eq_false h1)]
          simp
        clear HF HT
        by_cases h1:1≤x
        · have r2:¬x≤200:=by omega
          clear hr
          go_wp2_with fail
          go_roundw
          case rel=>exact⟨i+1,F,by go_num,by omega,HFN,hX⟩
          case measure=>exact mZ
        · clear hr
          go_wp2_with fail
          go_roundw
          case rel=>exact⟨i+1,F,by go_num,by omega,HFN,hX⟩
          case measure=>exact mZ
    · have hlI:¬(i:Int)< (l.length:Int):=by omega
      have HG:Hid (∀j,flOf l j=F.getD j false):=Lh (fun j=>by rw[HF.out.2.2 j,List.take_of_length_le kA])
      have hg:=HF.out.2.1
      have hsz:(Tryz.prog.info? 128).map (·.size)=some (flV F).size:=by
        have e:(flV F).size=201:=by unfold flV;simp[HF.out.1]
        rw[e];exact size103
      have HSP:=Lh fun W=>spansv_any F HF.out.1 (flOf l) HG.out W
      have HGB:=Lh hg
      have HSZ:=Lh hsz
      clear hg hsz HF HG
      go_wp2_with (refine wpList_load_row rfl 128 (.tmp 3) rfl w.heap.size rfl 128 (flV F) (0,0) _ HGB.out Tryz.underlying128 rfl HSZ.out ?_)
      refine(HSP.out _).mono ?_
      rintro e w2 ⟨⟨u,rfl,hru⟩,hB2⟩
      go_wp2_with fail
      go_ret
      exact⟨⟨u,rfl,hru.ok (fun b hb=>Nat.le_trans hX.size hb)⟩,hX.trans hB2⟩
def escC (v:Bool) (c:UInt8):Bytes:=
  if c.toNat=38 then [38,97,109,112,59]
  else if c.toNat=60 then [38,108,116,59]
  else if c.toNat=13 then [38,35,49,51,59]
  else if c.toNat=62∧v=false then [38,103,116,59]
  else if c.toNat=34∧v=true then [38,113,117,111,116,59]
  else if c.toNat=9∧v=true then [38,35,57,59]
  else if c.toNat=10∧v=true then [38,35,49,48,59]
  else [c]
def escS (v:Bool) (l:Bytes):Bytes:=l.flatMap (escC v)
theorem escC_len (v:Bool) (c:UInt8):(escC v c).length≤6:=by
  unfold escC
  repeat' split
  all_goals simp
theorem escS_len (v:Bool):∀l:Bytes,(escS v l).length≤6*l.length
  | []=>by simp[escS]
  | c::r=>by
    have h1:=escC_len v c
    have h2:=escS_len v r
    unfold escS at*
    rw[List.flatMap_cons,List.length_append,List.length_cons];omega
theorem escS_step (v:Bool) (l:Bytes) (i:Nat) (h:i< l.length):escS v (l.take (i+1))=escS v (l.take i)++escC v l[i]:=by
  unfold escS
  rw[List.take_add_one,List.getElem?_eq_getElem h,List.flatMap_append];simp
theorem esc_false (s:Bytes) (w:World) (hs:s.length≤1048576):Calls Tryz.prog 196 #[.string (bs s),.bool false] w fun e w'=>e= .returned (.string (bs (escS false s)))∧Ext w w':=by
  have hsz:(bs s).size≤1048576:=by rw[bs_size];exact hs
  obtain⟨R,hR⟩:∃R,escS false s=R:=⟨_,rfl⟩
  rw[hR]
  have HR:=Lh hR
  clear hR
  go_enter Tryz.func196,Tryz.ntmps196
  go_wp2_with fail
  go_loopw [5,6,7] (fun o t _ wr=>∃(i:Nat) (L:Bytes),t= .int .i64 i∧o= .string (bs L)∧i≤(bs s).size∧Hid (L=escS false (s.take i))∧Ext w wr) (fun _ t _ _=>downV (bs s).size t)
  case atStart=>exact⟨0,[],rfl,rfl,Nat.zero_le _,Lh rfl,Ext.refl _⟩
  case round=>
    obtain⟨i,L,rfl,rfl,hi,HL,hX⟩:=hrel
    have hi0:=nZ0 i
    have hLb:(bs L).size≤6291456:=by
      rw[bs_size,HL.out]
      have:=escS_len false (s.take i)
      rw[List.length_take]at this;omega
    by_cases hlt:i< (bs s).size
    · have hlI:(i:Int)< ((bs s).size:Int):=by omega
      have hl2:i< s.length:=by rw[bs_size]at hlt;exact hlt
      have HS:Hid (L++escC false (s[i]'hl2)=escS false (s.take (i+1))):=Lh (by rw[escS_step false s i hl2,HL.out])
      have hc:(bs s)[i]'hlt=s[i]'hl2:=bs_getE s i hlt
      rw[←hc]at HS
      have cb:=((bs s)[i]'hlt).toNat_lt
      obtain⟨c,hcc⟩:∃c,(bs s)[i]'hlt=c:=⟨_,rfl⟩
      rw[hcc]at HS cb
      have HEX:Hid ((bs s).extract i (i+1)=bs [c]):=Lh (by
        rw[bs_extract,show i+1 - i=1 by omega,drop_one s i hl2,←hc,hcc];rfl)
      have hv:(bs s)[i]'hlt=c:=hcc
      clear HL hc hl2
      by_cases h38:c.toNat=38
      · have g1:¬9223372036854775807< (bs L).size+(⟨#[38,97,109,112,59]⟩:ByteArray).size:=by rw[show(⟨#[38,97,109,112,59]⟩:ByteArray).size=5 from rfl];omega
        have g2:bs L++⟨#[38,97,109,112,59]⟩=bs (L++ [38,97,109,112,59]):=bs_append L [38,97,109,112,59]
        have HN:Hid (L++ [38,97,109,112,59]=escS false (s.take (i+1))):=Lh (by rw[←HS.out];congr 1;unfold escC;simp[h38])
        clear HS HEX cb
        go_wp2_with fail
        go_roundw
        case rel=>exact⟨i+1,L++ [38,97,109,112,59],by go_num,rfl,by omega,HN,hX⟩
        case measure=>exact mZ
      have e38:((c.toNat:Int)==38)=false:=by rw[beq_eq_false_iff_ne];omega
      by_cases h60:c.toNat=60
      · have g1:¬9223372036854775807< (bs L).size+(⟨#[38,108,116,59]⟩:ByteArray).size:=by rw[show(⟨#[38,108,116,59]⟩:ByteArray).size=4 from rfl];omega
        have g2:bs L++⟨#[38,108,116,59]⟩=bs (L++ [38,108,116,59]):=bs_append L [38,108,116,59]
        have HN:Hid (L++ [38,108,116,59]=escS false (s.take (i+1))):=Lh (by rw[←HS.out];congr 1;unfold escC;simp[h60])
        clear HS HEX cb
        go_wp2_with fail
        go_roundw
        case rel=>exact⟨i+1,L++ [38,108,116,59],by go_num,rfl,by omega,HN,hX⟩
        case measure=>exact mZ
      have e60:((c.toNat:Int)==60)=false:=by rw[beq_eq_false_iff_ne];omega
      by_cases h13:c.toNat=13
      · have g1:¬9223372036854775807< (bs L).size+(⟨#[38,35,49,51,59]⟩:ByteArray).size:=by rw[show(⟨#[38,35,49,51,59]⟩:ByteArray).size=5 from rfl];omega
        have g2:bs L++⟨#[38,35,49,51,59]⟩=bs (L++ [38,35,49,51,59]):=bs_append L [38,35,49,51,59]
        have HN:Hid (L++ [38,35,49,51,59]=escS false (s.take (i+1))):=Lh (by rw[←HS.out];congr 1;unfold escC;simp[h13])
        clear HS HEX cb
        go_wp2_with fail
        go_roundw
        case rel=>exact⟨i+1,L++ [38,35,49,51,59],by go_num,rfl,by omega,HN,hX⟩
        case measure=>exact mZ
      have e13:((c.toNat:Int)==13)=false:=by rw[beq_eq_false_iff_ne];omega
      by_cases h62:c.toNat=62
      · have g1:¬9223372036854775807< (bs L).size+(⟨#[38,103,116,59]⟩:ByteArray).size:=by rw[show(⟨#[38,103,116,59]⟩:ByteArray).size=4 from rfl];omega
        have g2:bs L++⟨#[38,103,116,59]⟩=bs (L++ [38,103,116,59]):=bs_append L [38,103,116,59]
        have HN:Hid (L++ [38,103,116,59]=escS false (s.take (i+1))):=Lh (by rw[←HS.out];congr 1;unfold escC;simp[h62])
        clear HS HEX cb
        go_wp2_with fail
        go_roundw
        case rel=>exact⟨i+1,L++ [38,103,116,59],by go_num,rfl,by omega,HN,hX⟩
        case measure=>exact mZ
      have e62:((c.toNat:Int)==62)=false:=by rw[beq_eq_false_iff_ne];omega
      by_cases h34:c.toNat=34
      · have g1:¬9223372036854775807< (bs L).size+(bs [c]).size:=by rw[bs_size [c]];simp;omega
        have g2:bs L++bs [c]=bs (L++ [c]):=bs_append L [c]
        have HN:Hid (L++ [c]=escS false (s.take (i+1))):=Lh (by rw[←HS.out];congr 1;unfold escC;simp[h34])
        have hex:=HEX.out
        clear HS HEX cb
        go_wp2_with fail
        go_roundw
        case rel=>exact⟨i+1,L++ [c],by go_num,rfl,by omega,HN,hX⟩
        case measure=>exact mZ
      have e34:((c.toNat:Int)==34)=false:=by rw[beq_eq_false_iff_ne];omega
      by_cases h9:c.toNat=9
      · have g1:¬9223372036854775807< (bs L).size+(bs [c]).size:=by rw[bs_size [c]];simp;omega
        have g2:bs L++bs [c]=bs (L++ [c]):=bs_append L [c]
        have HN:Hid (L++ [c]=escS false (s.take (i+1))):=Lh (by rw[←HS.out];congr 1;unfold escC;simp[h9])
        have hex:=HEX.out
        clear HS HEX cb
        go_wp2_with fail
        go_roundw
        case rel=>exact⟨i+1,L++ [c],by go_num,rfl,by omega,HN,hX⟩
        case measure=>exact mZ
      have e9:((c.toNat:Int)==9)=false:=by rw[beq_eq_false_iff_ne];omega
      by_cases h10:c.toNat=10
      · have g1:¬9223372036854775807< (bs L).size+(bs [c]).size:=by rw[bs_size [c]];simp;omega
        have g2:bs L++bs [c]=bs (L++ [c]):=bs_append L [c]
        have HN:Hid (L++ [c]=escS false (s.take (i+1))):=Lh (by rw[←HS.out];congr 1;unfold escC;simp[h10])
        have hex:=HEX.out
        clear HS HEX cb
        go_wp2_with fail
        go_roundw
        case rel=>exact⟨i+1,L++ [c],by go_num,rfl,by omega,HN,hX⟩
        case measure=>exact mZ
      have e10:((c.toNat:Int)==10)=false:=by rw[beq_eq_false_iff_ne];omega
      have g1:¬9223372036854775807< (bs L).size+(bs [c]).size:=by rw[bs_size [c]];simp;omega
      have g2:bs L++bs [c]=bs (L++ [c]):=bs_append L [c]
      have HN:Hid (L++ [c]=escS false (s.take (i+1))):=Lh (by rw[←HS.out];congr 1;unfold escC;simp[h38,h60,h13,h62,h34,h9,h10])
      have hex:=HEX.out
      clear HS HEX h38 h60 h13 h62 h34 h9 h10
      go_wp2_with fail
      go_roundw
      case rel=>exact⟨i+1,L++ [c],by go_num,rfl,by omega,HN,hX⟩
      case measure=>exact mZ
    · have hlI:¬(i:Int)< ((bs s).size:Int):=by omega
      have HN:Hid (L=R):=Lh (by rw[HL.out,←HR.out,List.take_of_length_le (by rw[bs_size]at hlt;omega)])
      clear HL
      go_wp2_with fail
      go_ret
      exact⟨ret_string (by rw[HN.out]),hX⟩
theorem esc_true (s:Bytes) (w:World) (hs:s.length≤1048576):Calls Tryz.prog 196 #[.string (bs s),.bool true] w fun e w'=>e= .returned (.string (bs (escS true s)))∧Ext w w':=by
  have hsz:(bs s).size≤1048576:=by rw[bs_size];exact hs
  obtain⟨R,hR⟩:∃R,escS true s=R:=⟨_,rfl⟩
  rw[hR]
  have HR:=Lh hR
  clear hR
  go_enter Tryz.func196,Tryz.ntmps196
  go_wp2_with fail
  go_loopw [5,6,7] (fun o t _ wr=>∃(i:Nat) (L:Bytes),t= .int .i64 i∧o= .string (bs L)∧i≤(bs s).size∧Hid (L=escS true (s.take i))∧Ext w wr) (fun _ t _ _=>downV (bs s).size t)
  case atStart=>exact⟨0,[],rfl,rfl,Nat.zero_le _,Lh rfl,Ext.refl _⟩
  case round=>
    obtain⟨i,L,rfl,rfl,hi,HL,hX⟩:=hrel
    have hi0:=nZ0 i
    have hLb:(bs L).size≤6291456:=by
      rw[bs_size,HL.out]
      have:=escS_len true (s.take i)
      rw[List.length_take]at this;omega
    by_cases hlt:i< (bs s).size
    · have hlI:(i:Int)< ((bs s).size:Int):=by omega
      have hl2:i< s.length:=by rw[bs_size]at hlt;exact hlt
      have HS:Hid (L++escC true (s[i]'hl2)=escS true (s.take (i+1))):=Lh (by rw[escS_step true s i hl2,HL.out])
      have hc:(bs s)[i]'hlt=s[i]'hl2:=bs_getE s i hlt
      rw[←hc]at HS
      have cb:=((bs s)[i]'hlt).toNat_lt
      obtain⟨c,hcc⟩:∃c,(bs s)[i]'hlt=c:=⟨_,rfl⟩
      rw[hcc]at HS cb
      have HEX:Hid ((bs s).extract i (i+1)=bs [c]):=Lh (by
        rw[bs_extract,show i+1 - i=1 by omega,drop_one s i hl2,←hc,hcc];rfl)
      have hv:(bs s)[i]'hlt=c:=hcc
      clear HL hc hl2
      by_cases h38:c.toNat=38
      · have g1:¬9223372036854775807< (bs L).size+(⟨#[38,97,109,112,59]⟩:ByteArray).size:=by rw[show(⟨#[38,97,109,112,59]⟩:ByteArray).size=5 from rfl];omega
        have g2:bs L++⟨#[38,97,109,112,59]⟩=bs (L++ [38,97,109,112,59]):=bs_append L [38,97,109,112,59]
        have HN:Hid (L++ [38,97,109,112,59]=escS true (s.take (i+1))):=Lh (by rw[←HS.out];congr 1;unfold escC;simp[h38])
        clear HS HEX cb
        go_wp2_with fail
        go_roundw
        case rel=>exact⟨i+1,L++ [38,97,109,112,59],by go_num,rfl,by omega,HN,hX⟩
        case measure=>exact mZ
      have e38:((c.toNat:Int)==38)=false:=by rw[beq_eq_false_iff_ne];omega
      by_cases h60:c.toNat=60
      · have g1:¬9223372036854775807< (bs L).size+(⟨#[38,108,116,59]⟩:ByteArray).size:=by rw[show(⟨#[38,108,116,59]⟩:ByteArray).size=4 from rfl];omega
        have g2:bs L++⟨#[38,108,116,59]⟩=bs (L++ [38,108,116,59]):=bs_append L [38,108,116,59]
        have HN:Hid (L++ [38,108,116,59]=escS true (s.take (i+1))):=Lh (by rw[←HS.out];congr 1;unfold escC;simp[h60])
        clear HS HEX cb
        go_wp2_with fail
        go_roundw
        case rel=>exact⟨i+1,L++ [38,108,116,59],by go_num,rfl,by omega,HN,hX⟩
        case measure=>exact mZ
      have e60:((c.toNat:Int)==60)=false:=by rw[beq_eq_false_iff_ne];omega
      by_cases h13:c.toNat=13
      · have g1:¬9223372036854775807< (bs L).size+(⟨#[38,35,49,51,59]⟩:ByteArray).size:=by rw[show(⟨#[38,35,49,51,59]⟩:ByteArray).size=5 from rfl];omega
        have g2:bs L++⟨#[38,35,49,51,59]⟩=bs (L++ [38,35,49,51,59]):=bs_append L [38,35,49,51,59]
        have HN:Hid (L++ [38,35,49,51,59]=escS true (s.take (i+1))):=Lh (by rw[←HS.out];congr 1;unfold escC;simp[h13])
        clear HS HEX cb
        go_wp2_with fail
        go_roundw
        case rel=>exact⟨i+1,L++ [38,35,49,51,59],by go_num,rfl,by omega,HN,hX⟩
        case measure=>exact mZ
      have e13:((c.toNat:Int)==13)=false:=by rw[beq_eq_false_iff_ne];omega
      by_cases h62:c.toNat=62
      · have g1:¬9223372036854775807< (bs L).size+(bs [c]).size:=by rw[bs_size [c]];simp;omega
        have g2:bs L++bs [c]=bs (L++ [c]):=bs_append L [c]
        have HN:Hid (L++ [c]=escS true (s.take (i+1))):=Lh (by rw[←HS.out];congr 1;unfold escC;simp[h62])
        have hex:=HEX.out
        clear HS HEX cb
        go_wp2_with fail
        go_roundw
        case rel=>exact⟨i+1,L++ [c],by go_num,rfl,by omega,HN,hX⟩
        case measure=>exact mZ
      have e62:((c.toNat:Int)==62)=false:=by rw[beq_eq_false_iff_ne];omega
      by_cases h34:c.toNat=34
      · have g1:¬9223372036854775807< (bs L).size+(⟨#[38,113,117,111,116,59]⟩:ByteArray).size:=by rw[show(⟨#[38,113,117,111,116,59]⟩:ByteArray).size=6 from rfl];omega
        have g2:bs L++⟨#[38,113,117,111,116,59]⟩=bs (L++ [38,113,117,111,116,59]):=bs_append L [38,113,117,111,116,59]
        have HN:Hid (L++ [38,113,117,111,116,59]=escS true (s.take (i+1))):=Lh (by rw[←HS.out];congr 1;unfold escC;simp[h34])
        clear HS HEX cb
        go_wp2_with fail
        go_roundw
        case rel=>exact⟨i+1,L++ [38,113,117,111,116,59],by go_num,rfl,by omega,HN,hX⟩
        case measure=>exact mZ
      have e34:((c.toNat:Int)==34)=false:=by rw[beq_eq_false_iff_ne];omega
      by_cases h9:c.toNat=9
      · have g1:¬9223372036854775807< (bs L).size+(⟨#[38,35,57,59]⟩:ByteArray).size:=by rw[show(⟨#[38,35,57,59]⟩:ByteArray).size=4 from rfl];omega
        have g2:bs L++⟨#[38,35,57,59]⟩=bs (L++ [38,35,57,59]):=bs_append L [38,35,57,59]
        have HN:Hid (L++ [38,35,57,59]=escS true (s.take (i+1))):=Lh (by rw[←HS.out];congr 1;unfold escC;simp[h9])
        clear HS HEX cb
        go_wp2_with fail
        go_roundw
        case rel=>exact⟨i+1,L++ [38,35,57,59],by go_num,rfl,by omega,HN,hX⟩
        case measure=>exact mZ
      have e9:((c.toNat:Int)==9)=false:=by rw[beq_eq_false_iff_ne];omega
      by_cases h10:c.toNat=10
      · have g1:¬9223372036854775807< (bs L).size+(⟨#[38,35,49,48,59]⟩:ByteArray).size:=by rw[show(⟨#[38,35,49,48,59]⟩:ByteArray).size=5 from rfl];omega
        have g2:bs L++⟨#[38,35,49,48,59]⟩=bs (L++ [38,35,49,48,59]):=bs_append L [38,35,49,48,59]
        have HN:Hid (L++ [38,35,49,48,59]=escS true (s.take (i+1))):=Lh (by rw[←HS.out];congr 1;unfold escC;simp[h10])
        clear HS HEX cb
        go_wp2_with fail
        go_roundw
        case rel=>exact⟨i+1,L++ [38,35,49,48,59],by go_num,rfl,by omega,HN,hX⟩
        case measure=>exact mZ
      have e10:((c.toNat:Int)==10)=false:=by rw[beq_eq_false_iff_ne];omega
      have g1:¬9223372036854775807< (bs L).size+(bs [c]).size:=by rw[bs_size [c]];simp;omega
      have g2:bs L++bs [c]=bs (L++ [c]):=bs_append L [c]
      have HN:Hid (L++ [c]=escS true (s.take (i+1))):=Lh (by rw[←HS.out];congr 1;unfold escC;simp[h38,h60,h13,h62,h34,h9,h10])
      have hex:=HEX.out
      clear HS HEX h38 h60 h13 h62 h34 h9 h10
      go_wp2_with fail
      go_roundw
      case rel=>exact⟨i+1,L++ [c],by go_num,rfl,by omega,HN,hX⟩
      case measure=>exact mZ
    · have hlI:¬(i:Int)< ((bs s).size:Int):=by omega
      have HN:Hid (L=R):=Lh (by rw[HL.out,←HR.out,List.take_of_length_le (by rw[bs_size]at hlt;omega)])
      clear HL
      go_wp2_with fail
      go_ret
      exact⟨ret_string (by rw[HN.out]),hX⟩
def attrT (a:Attr):Bytes:= [32]++a.n++ [61,34]++escS true a.v++ [34]
mutual
def txtN:Node→Bytes
  | .mk k n t la ks=>
    if k=2 then escS false t
    else if k=3 then [60,33,45,45]++t++ [45,45,62]
    else if k=4 then(if t= []then [60,63]++n++ [63,62]else [60,63]++n++ [32]++t++ [63,62])
    else if k≠1 then []
    else if ks.length=0 then([60]++n++la.flatMap attrT)++ [47,62]
    else([60]++n++la.flatMap attrT)++ [62]++txtL ks++ [60,47]++n++ [62]
def txtL:List Node→Bytes
  | []=> []
  | n::r=>txtN n++txtL r
end
theorem attrT_len (a:Attr):(attrT a).length≤6*(1+a.n.length+a.v.length):=by
  have:=escS_len true a.v
  unfold attrT;simp;omega
theorem attrsT_len:∀l:List Attr,(l.flatMap attrT).length≤6*cntA l
  | []=>by simp
  | a::r=>by
    have h1:=attrT_len a
    have h2:=attrsT_len r
    rw[List.flatMap_cons,List.length_append,cntA];omega
mutual
theorem txtN_len:∀n:Node,(txtN n).length≤12*cntN n
  | .mk k n t la ks=>by
    have h1:=escS_len false t
    have h2:=attrsT_len la
    have h3:=txtL_len ks
    rw[txtN,cntN]
    repeat' split
    all_goals ((try simp only[List.length_append,List.length_cons,List.length_nil]);omega)
theorem txtL_len:∀l:List Node,(txtL l).length≤12*cntL l
  | []=>by simp[txtL,cntL]
  | n::r=>by
    have h1:=txtN_len n
    have h2:=txtL_len r
    rw[txtL,cntL,List.length_append];omega
end
theorem txtL_take (l:List Node) (i:Nat) (h:i< l.length):txtL (l.take (i+1))=txtL (l.take i)++txtN l[i]:=by
  have gen:∀(x y:List Node),txtL (x++y)=txtL x++txtL y:=by
    intro x
    induction x with
    | nil=>intro y;simp[txtL]
    | cons n r ih=>intro y;rw[List.cons_append,txtL,txtL,ih,List.append_assoc]
  rw[List.take_add_one,List.getElem?_eq_getElem h,gen];simp[txtL]
theorem txtL_takelen (l:List Node) (i:Nat):(txtL (l.take i)).length≤12*cntL l:=by
  have h1:=txtL_len (l.take i)
  have h2:cntL (l.take i)≤cntL l:=by
    clear h1
    induction l generalizing i with
    | nil=>simp[cntL]
    | cons n r ih=>
      cases i with
      | zero=>simp[cntL]
      | succ i=>rw[List.take_succ_cons,cntL,cntL];have:=ih i;omega
  omega
theorem cntL_mem (l:List Node) (i:Nat) (h:i< l.length):cntN l[i]≤cntL l:=by
  induction l generalizing i with
  | nil=>simp at h
  | cons n r ih=>
    cases i with
    | zero=>rw[cntL];simp
    | succ i=>rw[cntL];have:=ih i kJ;simp only[List.getElem_cons_succ];omega
def NodeTxt (N:Nat):Prop:=∀(a:Node) (p:Nat→Prop) (va vk:Value) (w:World),nsz a≤N→cntN a≤1048576→Rep w p va (attrsD a.attrs)→Rep w p vk (nodesD a.kids)→
    Calls Tryz.prog 191 #[.agg #[.int .i64 a.kind,.string (bs a.name),.string (bs a.text),va,vk]] w fun e w'=>e= .returned (.string (bs (txtN a)))∧Ext w w'
theorem cntA_take:∀(l:List Attr) (i:Nat),cntA (l.take i)≤cntA l
  | [],i=>by simp[cntA]
  | a::r,0=>by simp[cntA]
  | a::r,i+1=>by rw[List.take_succ_cons,cntA,cntA];have:=cntA_take r i;omega
theorem cntA_mem:∀(l:List Attr) (i:Nat) (h:i< l.length),1+l[i].n.length+l[i].v.length≤cntA l
  | [],i,h=>by simp at h
  | a::r,0,h=>by rw[cntA];simp
  | a::r,i+1,h=>by rw[cntA];have:=cntA_mem r i kJ;simp only[List.getElem_cons_succ];omega
theorem nodestxt_of (N:Nat) (HN0:Hid (NodeTxt N)) (ks:List Node) (p:Nat→Prop) (v:Value) (w:World) (hN:∀(i:Nat) (h:i< ks.length),nsz ks[i]≤N) (hcnt:cntL ks≤1048576) (hv:Rep w p v (nodesD ks)):
    Calls Tryz.prog 174 #[v] w fun e w'=>e= .returned (.string (bs (txtL ks)))∧Ext w w':=by
  obtain⟨a,c,rfl,hc1,hc2⟩:=hv.count z_node kA
  obtain⟨R,hR⟩:∃R,txtL ks=R:=⟨_,rfl⟩
  rw[hR]
  have HR:=Lh hR
  have HM:=Lh hN
  clear hR hN
  go_enter Tryz.func174,Tryz.ntmps174
  go_wp2_with fail
  go_loopw [3,4] (fun o t wr=>∃(i:Nat) (S:Bytes),t= .int .i64 i∧o= .string (bs S)∧i≤ks.length∧Hid (S=txtL (ks.take i))∧Ext w wr) (fun _ t _=>downV ks.length t)
  case atStart=>exact⟨0,[],rfl,rfl,Nat.zero_le _,Lh (by simp[txtL]),Ext.refl _⟩
  case round=>
    obtain⟨i,S,rfl,rfl,hi,HS,hX⟩:=hrel
    have hi0:=nZ0 i
    by_cases hlt:i< ks.length
    · have hlI:(i:Int)< (ks.length:Int):=by omega
      obtain⟨g,o,x1,x2,rfl,hb,_,e0,e1,e2,e3,e4,hr1,hr2⟩:=node_at (hv.ext hX) i hlt
      have hT:=txtL_take ks i hlt
      have hm:=HM.out i hlt
      have hci:=cntL_mem ks i hlt
      have hSl:S.length≤12582912:=by rw[HS.out];have:=txtL_takelen ks i;omega
      obtain⟨x,hx⟩:∃x,ks[i]=x:=⟨_,rfl⟩
      rw[hx]at e0 e1 e2 hr1 hr2 hT hm hci
      have hxl:=txtN_len x
      have HC:=Lh fun W (hE:Ext wr W)=>HN0.out x p x1 x2 W hm kA (hr1.ext hE) (hr2.ext hE)
      obtain⟨T,hTT⟩:∃T,txtN x=T:=⟨_,rfl⟩
      rw[hTT]at HC hT hxl
      have HN:Hid (S++T=txtL (ks.take (i+1))):=Lh (by rw[hT,HS.out])
      have g1:¬9223372036854775807< (bs S).size+(bs T).size:=by rw[bs_size,bs_size];omega
      have g2:bs S++bs T=bs (S++T):=bs_append S T
      clear hx hTT hT hxl hm hci hSl HS
      go_wp2_with fail
      refine(HC.out _ (Ext.refl _)).mono ?_
      rintro e w1 ⟨rfl,hB1⟩
      go_wp2_with fail
      go_roundw
      case rel=>exact⟨i+1,S++T,by go_num,rfl,by omega,HN,hX.trans hB1⟩
      case measure=>exact mZ
    · have hlI:¬(i:Int)< (ks.length:Int):=by omega
      have HN:Hid (S=R):=Lh (by rw[HS.out,←HR.out,List.take_of_length_le kA])
      clear HS
      go_wp2_with fail
      go_ret
      exact⟨ret_string (by rw[HN.out]),hX⟩
end Go.Proofs.YtngmgjodcnknoaaGreatDoor
