/-
 Laws drawn from elder texts. Helper lemmas;no statement of the seat is proved here.
-/
import Derived.Test.YtngmgjodcnknoaaGreatDoorU3
namespace Go.Proofs.YtngmgjodcnknoaaGreatDoor
open Go.RowKit
set_option maxHeartbeats 32000000
set_option maxRecDepth 100000
set_option linter.unusedVariables false
set_option linter.unusedSimpArgs false
theorem nodetxt_any:∀N:Nat,NodeTxt N:=by
 intro N
 induction N with
 | zero=>intro a p va vk w hN;cases a;rw[nsz]at hN;omega
 | succ N ih=>
  have IH:Hid (NodeTxt N):=Lh ih
  clear ih
  intro a p va vk w hN hcnt hva hvk
  have hkid:=fun i h=>kid_lt a i h
  obtain⟨k,nm,tx,la,ks⟩:=a
  simp only[Node.kind,Node.name,Node.text,Node.attrs,Node.kids]at*
  obtain⟨ba,ca,rfl,ha1,ha2⟩:=hva.count z_attr kA
  obtain⟨bk,ck,rfl,hk1,hk2⟩:=hvk.count z_node kA
  obtain⟨R,hR⟩:∃R,txtN (.mk k nm tx la ks)=R:=⟨_,rfl⟩
  rw[hR]
  rw[txtN]at hR
  rw[cntN]at hcnt
  have hM:∀(i:Nat) (h:i< ks.length),nsz ks[i]≤N:=fun i h=>by have:=hkid i h;omega
  have b1:nm.length≤1048576:=by omega
  have b2:tx.length≤1048576:=by omega
  have b3:(la.flatMap attrT).length≤6291456:=by have:=attrsT_len la;omega
  have b4:(txtL ks).length≤12582912:=by have:=txtL_len ks;omega
  have HTL:=Lh fun W (hE:Ext w W)=>nodestxt_of N IH ks p _ W hM kA (hvk.ext hE)
  have HE0:=Lh fun W=>esc_false tx W b2
  clear hkid hN hM
  by_cases k2:k=2
  ·
   subst k2
   have HN:Hid (escS false tx=R):=Lh (by rw[←hR,if_pos rfl])
   clear hR HTL hva hvk hcnt b1 b2 b3 b4
   go_enter Tryz.func191,Tryz.ntmps191
   go_wp2_with fail
   refine(HE0.out _).mono ?_
   rintro e w1 ⟨rfl,hB1⟩
   go_wp2_with fail
   go_ret
   exact⟨ret_string (by rw[HN.out]),((Ext.refl w).alloc _).trans hB1⟩
  ·
   have t2:(k==2)=false:=by rw[beq_eq_false_iff_ne];exact k2
   rw[if_neg k2]at hR
   by_cases k3:k=3
   ·
    subst k3
    rw[if_pos rfl]at hR
    obtain⟨Za0,hZa0⟩:∃z:Bytes,z= [60,33,45,45]++tx:=⟨_,rfl⟩
    have qa0:(⟨#[60,33,45,45]⟩:ByteArray)++bs tx=bs Za0:=by rw[hZa0];exact bs_append ([60,33,45,45]) (tx)
    have ra0:¬9223372036854775807< ((⟨#[60,33,45,45]⟩:ByteArray)).size+(bs tx).size:=by rw[show((⟨#[60,33,45,45]⟩:ByteArray):ByteArray)=bs ([60,33,45,45]) from rfl,show(bs tx:ByteArray)=bs (tx) from rfl,bs_size,bs_size];simp only[List.length_append,List.length_cons,List.length_nil];omega
    obtain⟨Za1,hZa1⟩:∃z:Bytes,z= [60,33,45,45]++tx++ [45,45,62]:=⟨_,rfl⟩
    have qa1:bs Za0++(⟨#[45,45,62]⟩:ByteArray)=bs Za1:=by rw[hZa1,hZa0];exact bs_append ([60,33,45,45]++tx) ([45,45,62])
    have ra1:¬9223372036854775807< (bs Za0).size+((⟨#[45,45,62]⟩:ByteArray)).size:=by rw[hZa0];rw[show(bs ([60,33,45,45]++tx):ByteArray)=bs ([60,33,45,45]++tx) from rfl,show((⟨#[45,45,62]⟩:ByteArray):ByteArray)=bs ([45,45,62]) from rfl,bs_size,bs_size];simp only[List.length_append,List.length_cons,List.length_nil];omega
    have sa1:(bs Za0).size≤9223372036854775804:=by rw[hZa0];rw[show(bs ([60,33,45,45]++tx):ByteArray)=bs ([60,33,45,45]++tx) from rfl,bs_size];simp only[List.length_append,List.length_cons,List.length_nil];omega
    have HZa:=Lh hZa1
    clear hZa0 hZa1
    have HN:=Lh hR
    clear hR HTL hva hvk hcnt b1 b2 b3 b4 k2 HE0
    go_enter Tryz.func191,Tryz.ntmps191
    go_wp2_with fail
    go_ret
    exact⟨ret_string (by rw[←HN.out,←HZa.out]),(Ext.refl w).alloc _⟩
   ·
    have t3:(k==3)=false:=by rw[beq_eq_false_iff_ne];exact k3
    rw[if_neg k3]at hR
    by_cases k4:k=4
    ·
     subst k4
     rw[if_pos rfl]at hR
     by_cases ht:tx= []
     ·
      subst ht
      rw[if_pos rfl]at hR
      have e0:(bs []).toList.isEmpty=true:=by rw[bs_toList];rfl
      have e1:((bs []).toList)= []:=by rw[bs_toList]
      obtain⟨Za0,hZa0⟩:∃z:Bytes,z= [60,63]++nm:=⟨_,rfl⟩
      have qa0:(⟨#[60,63]⟩:ByteArray)++bs nm=bs Za0:=by rw[hZa0];exact bs_append ([60,63]) (nm)
      have ra0:¬9223372036854775807< ((⟨#[60,63]⟩:ByteArray)).size+(bs nm).size:=by rw[show((⟨#[60,63]⟩:ByteArray):ByteArray)=bs ([60,63]) from rfl,show(bs nm:ByteArray)=bs (nm) from rfl,bs_size,bs_size];simp only[List.length_append,List.length_cons,List.length_nil];omega
      obtain⟨Za1,hZa1⟩:∃z:Bytes,z= [60,63]++nm++ [63,62]:=⟨_,rfl⟩
      have qa1:bs Za0++(⟨#[63,62]⟩:ByteArray)=bs Za1:=by rw[hZa1,hZa0];exact bs_append ([60,63]++nm) ([63,62])
      have ra1:¬9223372036854775807< (bs Za0).size+((⟨#[63,62]⟩:ByteArray)).size:=by rw[hZa0];rw[show(bs ([60,63]++nm):ByteArray)=bs ([60,63]++nm) from rfl,show((⟨#[63,62]⟩:ByteArray):ByteArray)=bs ([63,62]) from rfl,bs_size,bs_size];simp only[List.length_append,List.length_cons,List.length_nil];omega
      have sa1:(bs Za0).size≤9223372036854775805:=by rw[hZa0];rw[show(bs ([60,63]++nm):ByteArray)=bs ([60,63]++nm) from rfl,bs_size];simp only[List.length_append,List.length_cons,List.length_nil];omega
      have HZa:=Lh hZa1
      clear hZa0 hZa1
      have HN:=Lh hR
      clear hR HTL hva hvk hcnt b1 b2 b3 b4 k2 k3 HE0
      go_enter Tryz.func191,Tryz.ntmps191
      go_wp2_with fail
      go_ret
      exact⟨ret_string (by rw[←HN.out,←HZa.out]),(Ext.refl w).alloc _⟩
     ·
      rw[if_neg ht]at hR
      have e0:(bs tx).toList.isEmpty=false:=by rw[bs_toList];cases tx;exact absurd rfl ht;rfl
      have e1:¬(bs tx).toList= []:=by rw[bs_toList];exact ht
      obtain⟨Za0,hZa0⟩:∃z:Bytes,z= [60,63]++nm:=⟨_,rfl⟩
      have qa0:(⟨#[60,63]⟩:ByteArray)++bs nm=bs Za0:=by rw[hZa0];exact bs_append ([60,63]) (nm)
      have ra0:¬9223372036854775807< ((⟨#[60,63]⟩:ByteArray)).size+(bs nm).size:=by rw[show((⟨#[60,63]⟩:ByteArray):ByteArray)=bs ([60,63]) from rfl,show(bs nm:ByteArray)=bs (nm) from rfl,bs_size,bs_size];simp only[List.length_append,List.length_cons,List.length_nil];omega
      obtain⟨Za1,hZa1⟩:∃z:Bytes,z= [60,63]++nm++ [32]:=⟨_,rfl⟩
      have qa1:bs Za0++(⟨#[32]⟩:ByteArray)=bs Za1:=by rw[hZa1,hZa0];exact bs_append ([60,63]++nm) ([32])
      have ra1:¬9223372036854775807< (bs Za0).size+((⟨#[32]⟩:ByteArray)).size:=by rw[hZa0];rw[show(bs ([60,63]++nm):ByteArray)=bs ([60,63]++nm) from rfl,show((⟨#[32]⟩:ByteArray):ByteArray)=bs ([32]) from rfl,bs_size,bs_size];simp only[List.length_append,List.length_cons,List.length_nil];omega
      have sa1:(bs Za0).size≤9223372036854775806:=by rw[hZa0];rw[show(bs ([60,63]++nm):ByteArray)=bs ([60,63]++nm) from rfl,bs_size];simp only[List.length_append,List.length_cons,List.length_nil];omega
      obtain⟨Za2,hZa2⟩:∃z:Bytes,z= [60,63]++nm++ [32]++tx:=⟨_,rfl⟩
      have qa2:bs Za1++bs tx=bs Za2:=by rw[hZa2,hZa1];exact bs_append ([60,63]++nm++ [32]) (tx)
      have ra2:¬9223372036854775807< (bs Za1).size+(bs tx).size:=by rw[hZa1];rw[show(bs ([60,63]++nm++ [32]):ByteArray)=bs ([60,63]++nm++ [32]) from rfl,show(bs tx:ByteArray)=bs (tx) from rfl,bs_size,bs_size];simp only[List.length_append,List.length_cons,List.length_nil];omega
      obtain⟨Za3,hZa3⟩:∃z:Bytes,z= [60,63]++nm++ [32]++tx++ [63,62]:=⟨_,rfl⟩
      have qa3:bs Za2++(⟨#[63,62]⟩:ByteArray)=bs Za3:=by rw[hZa3,hZa2];exact bs_append ([60,63]++nm++ [32]++tx) ([63,62])
      have ra3:¬9223372036854775807< (bs Za2).size+((⟨#[63,62]⟩:ByteArray)).size:=by rw[hZa2];rw[show(bs ([60,63]++nm++ [32]++tx):ByteArray)=bs ([60,63]++nm++ [32]++tx) from rfl,show((⟨#[63,62]⟩:ByteArray):ByteArray)=bs ([63,62]) from rfl,bs_size,bs_size];simp only[List.length_append,List.length_cons,List.length_nil];omega
      have sa3:(bs Za2).size≤9223372036854775805:=by rw[hZa2];rw[show(bs ([60,63]++nm++ [32]++tx):ByteArray)=bs ([60,63]++nm++ [32]++tx) from rfl,bs_size];simp only[List.length_append,List.length_cons,List.length_nil];omega
      have HZa:=Lh hZa3
      clear hZa0 hZa1 hZa2 hZa3
      have HN:=Lh hR
      clear hR HTL hva hvk hcnt b1 b2 b3 b4 k2 k3 HE0 ht
      go_enter Tryz.func191,Tryz.ntmps191
      go_wp2_with fail
      go_ret
      exact⟨ret_string (by rw[←HN.out,←HZa.out]),(Ext.refl w).alloc _⟩
    ·
     have t4:(k==4)=false:=by rw[beq_eq_false_iff_ne];exact k4
     rw[if_neg k4]at hR
     by_cases k1:k=1
     ·
      subst k1
      rw[if_neg kD]at hR
      have t1:((1:Int) !=1)=false:=by rfl
      have HEA:=Lh fun(s:Bytes) (hs:s.length≤1048576) W=>esc_true s W hs
      have HCA:Hid (cntA la≤1048576):=Lh kA
      have Hb:=Lh (And.intro b1 b4)
      obtain⟨Zh0,hZh0⟩:∃z:Bytes,z= [60]++nm:=⟨_,rfl⟩
      have qh0:(⟨#[60]⟩:ByteArray)++bs nm=bs Zh0:=by rw[hZh0];exact bs_append ([60]) (nm)
      have rh0:¬9223372036854775807< ((⟨#[60]⟩:ByteArray)).size+(bs nm).size:=by rw[show((⟨#[60]⟩:ByteArray):ByteArray)=bs ([60]) from rfl,show(bs nm:ByteArray)=bs (nm) from rfl,bs_size,bs_size];simp only[List.length_append,List.length_cons,List.length_nil];omega
      have HZh:=Lh hZh0
      clear hZh0
      have HR:=Lh hR
      clear hR hvk hcnt b2 b3 b4 k2 k3 k4 HE0
      go_enter Tryz.func191,Tryz.ntmps191
      go_wp2_with fail
      obtain⟨w1,hw1⟩:∃w1,(w.alloc (.cells #[.int .i64 1,.string (bs nm),.string (bs tx),.slice ba la.length ca,.slice bk ks.length ck] 66))=w1:=⟨_,rfl⟩
      have hE1:Ext w w1:=by rw[←hw1];exact(Ext.refl w).alloc _
      have l0:w.heap.size< w1.heap.size:=by rw[←hw1];simp
      have c1:w1.cell? ⟨w.heap.size,1,none⟩=some (.string (bs nm)):=by rw[←hw1];simp[go_sem]
      have c3:w1.cell? ⟨w.heap.size,3,none⟩=some (.slice ba la.length ca):=by rw[←hw1];simp[go_sem]
      have c4:w1.cell? ⟨w.heap.size,4,none⟩=some (.slice bk ks.length ck):=by rw[←hw1];simp[go_sem]
      rw[hw1]
      clear hw1
      go_loopw [3,4] (fun o t wr=>∃(i:Nat) (S:Bytes),t= .int .i64 i∧o= .string (bs S)∧i≤la.length∧Hid (S= [60]++nm++(la.take i).flatMap attrT)∧Ext w1 wr) (fun _ t _=>downV la.length t)
      case atStart=>exact⟨0,Zh0,rfl,rfl,Nat.zero_le _,Lh (by rw[HZh.out];simp),Ext.refl _⟩
      case round=>
       obtain⟨i,S,rfl,rfl,hi,HS,hX⟩:=hrel
       have hi0:=nZ0 i
       have c1r:=hX.keep l0 c1
       have c3r:=hX.keep l0 c3
       have c4r:=hX.keep l0 c4
       have l0r:w.heap.size< wr.heap.size:=Nat.lt_of_lt_of_le l0 hX.size
       have hSl:S.length≤8388608:=by
        rw[HS.out]
        have h1:=attrsT_len (la.take i)
        have h2:=cntA_take la i
        have h3:=HCA.out
        have h4:=Hb.out.1
        simp only[List.length_append,List.length_cons,List.length_nil];omega
       by_cases hlt:i< la.length
       ·
        have hlI:(i:Int)< (la.length:Int):=by omega
        obtain⟨g1,o1,rfl,lb1,_,e1,e2⟩:=attr_at (hva.ext (hE1.trans hX)) i hlt
        have hst:(la.take (i+1)).flatMap attrT=(la.take i).flatMap attrT++attrT la[i]:=by rw[List.take_add_one,List.getElem?_eq_getElem hlt,List.flatMap_append];simp
        have hci:=cntA_mem la i hlt
        have hca:=HCA.out
        obtain⟨x,hx⟩:∃x,la[i]=x:=⟨_,rfl⟩
        rw[hx]at e1 e2 hst hci
        have hxn:x.n.length≤1048576:=by omega
        have HEC:=Lh fun W=>HEA.out x.v kA W
        have hTl:=escS_len true x.v
        obtain⟨T,hT⟩:∃T,escS true x.v=T:=⟨_,rfl⟩
        rw[hT]at HEC hTl
        have hTl2:T.length≤6291456:=by omega
        have HN:Hid (S++ [32]++x.n++ [61,34]++T++ [34]= [60]++nm++(la.take (i+1)).flatMap attrT):=Lh (by rw[hst,HS.out];unfold attrT;rw[hT];simp)
        obtain⟨Zp0,hZp0⟩:∃z:Bytes,z=S++ [32]:=⟨_,rfl⟩
        have qp0:bs S++(⟨#[32]⟩:ByteArray)=bs Zp0:=by rw[hZp0];exact bs_append (S) ([32])
        have rp0:¬9223372036854775807< (bs S).size+((⟨#[32]⟩:ByteArray)).size:=by rw[show(bs S:ByteArray)=bs (S) from rfl,show((⟨#[32]⟩:ByteArray):ByteArray)=bs ([32]) from rfl,bs_size,bs_size];simp only[List.length_append,List.length_cons,List.length_nil];omega
        have sp0:(bs S).size≤9223372036854775806:=by rw[show(bs S:ByteArray)=bs (S) from rfl,bs_size];omega
        obtain⟨Zp1,hZp1⟩:∃z:Bytes,z=S++ [32]++x.n:=⟨_,rfl⟩
        have qp1:bs Zp0++bs x.n=bs Zp1:=by rw[hZp1,hZp0];exact bs_append (S++ [32]) (x.n)
        have rp1:¬9223372036854775807< (bs Zp0).size+(bs x.n).size:=by rw[hZp0];rw[show(bs (S++ [32]):ByteArray)=bs (S++ [32]) from rfl,show(bs x.n:ByteArray)=bs (x.n) from rfl,bs_size,bs_size];simp only[List.length_append,List.length_cons,List.length_nil];omega
        obtain⟨Zp2,hZp2⟩:∃z:Bytes,z=S++ [32]++x.n++ [61,34]:=⟨_,rfl⟩
        have qp2:bs Zp1++(⟨#[61,34]⟩:ByteArray)=bs Zp2:=by rw[hZp2,hZp1];exact bs_append (S++ [32]++x.n) ([61,34])
        have rp2:¬9223372036854775807< (bs Zp1).size+((⟨#[61,34]⟩:ByteArray)).size:=by rw[hZp1];rw[show(bs (S++ [32]++x.n):ByteArray)=bs (S++ [32]++x.n) from rfl,show((⟨#[61,34]⟩:ByteArray):ByteArray)=bs ([61,34]) from rfl,bs_size,bs_size];simp only[List.length_append,List.length_cons,List.length_nil];omega
        have sp2:(bs Zp1).size≤9223372036854775805:=by rw[hZp1];rw[show(bs (S++ [32]++x.n):ByteArray)=bs (S++ [32]++x.n) from rfl,bs_size];simp only[List.length_append,List.length_cons,List.length_nil];omega
        obtain⟨Zp3,hZp3⟩:∃z:Bytes,z=S++ [32]++x.n++ [61,34]++T:=⟨_,rfl⟩
        have qp3:bs Zp2++bs T=bs Zp3:=by rw[hZp3,hZp2];exact bs_append (S++ [32]++x.n++ [61,34]) (T)
        have rp3:¬9223372036854775807< (bs Zp2).size+(bs T).size:=by rw[hZp2];rw[show(bs (S++ [32]++x.n++ [61,34]):ByteArray)=bs (S++ [32]++x.n++ [61,34]) from rfl,show(bs T:ByteArray)=bs (T) from rfl,bs_size,bs_size];simp only[List.length_append,List.length_cons,List.length_nil];omega
        obtain⟨Zp4,hZp4⟩:∃z:Bytes,z=S++ [32]++x.n++ [61,34]++T++ [34]:=⟨_,rfl⟩
        have qp4:bs Zp3++(⟨#[34]⟩:ByteArray)=bs Zp4:=by rw[hZp4,hZp3];exact bs_append (S++ [32]++x.n++ [61,34]++T) ([34])
        have rp4:¬9223372036854775807< (bs Zp3).size+((⟨#[34]⟩:ByteArray)).size:=by rw[hZp3];rw[show(bs (S++ [32]++x.n++ [61,34]++T):ByteArray)=bs (S++ [32]++x.n++ [61,34]++T) from rfl,show((⟨#[34]⟩:ByteArray):ByteArray)=bs ([34]) from rfl,bs_size,bs_size];simp only[List.length_append,List.length_cons,List.length_nil];omega
        have sp4:(bs Zp3).size≤9223372036854775806:=by rw[hZp3];rw[show(bs (S++ [32]++x.n++ [61,34]++T):ByteArray)=bs (S++ [32]++x.n++ [61,34]++T) from rfl,bs_size];simp only[List.length_append,List.length_cons,List.length_nil];omega
        have HZp:=Lh hZp4
        clear hZp0 hZp1 hZp2 hZp3 hZp4
        obtain⟨wz,hwz⟩:∃wz,wz=wr:=⟨_,rfl⟩
        subst hwz
        clear hx hst hci hca hTl hT hxn hTl2 hSl HS
        go_wp2_with fail
        refine rg_begin (S:=Sx wz) kB (Sx.begin _) ?_
        have hS:Sx wz (World.drew wz):=(Sx.begin _)
        refine gT 0 49 (.string (bs S)) hS ?_
        simp only[Act.put,sA,sZ,sS]
        refine gT 1 50 (.string (bs Zp0)) hS ?_
        simp only[Act.put,sA,sZ,sS]
        refine gT 2 51 (.pointer (some ⟨w.heap.size,3,none⟩)) hS ?_
        simp only[Act.put,sA,sZ,sS]
        refine gT 3 52 (.slice (some ⟨g1,o1,none⟩) la.length ca) hS ?_ (hv:=fun w' hs=>by(have h0:=hs.cell l0r c3r;go_simp))
        simp only[Act.put,sA,sZ,sS]
        refine gT 4 53 (.int .i64 i) hS ?_
        simp only[Act.put,sA,sZ,sS]
        refine gT 5 54 (.pointer (some ⟨g1,o1+i*2,none⟩)) hS ?_
        simp only[Act.put,sA,sZ,sS]
        refine gT 6 55 (.pointer (some ⟨g1,o1+i*2,none⟩)) hS ?_
        simp only[Act.put,sA,sZ,sS]
        refine gT 7 56 (.string (bs x.n)) hS ?_ (hv:=fun w' hs=>by(have h0:=hs.cell lb1 e1;go_simp))
        simp only[Act.put,sA,sZ,sS]
        refine gT 8 57 (.string (bs Zp1)) hS ?_
        simp only[Act.put,sA,sZ,sS]
        refine gT 9 58 (.string (bs Zp2)) hS ?_
        simp only[Act.put,sA,sZ,sS]
        refine gT 10 59 (.pointer (some ⟨w.heap.size,3,none⟩)) hS ?_
        simp only[Act.put,sA,sZ,sS]
        refine gT 11 60 (.slice (some ⟨g1,o1,none⟩) la.length ca) hS ?_ (hv:=fun w' hs=>by(have h0:=hs.cell l0r c3r;go_simp))
        simp only[Act.put,sA,sZ,sS]
        refine gT 12 61 (.int .i64 i) hS ?_
        simp only[Act.put,sA,sZ,sS]
        refine gT 13 62 (.pointer (some ⟨g1,o1+i*2,none⟩)) hS ?_
        simp only[Act.put,sA,sZ,sS]
        refine gT 14 63 (.pointer (some ⟨g1,o1+i*2+1,none⟩)) hS ?_
        simp only[Act.put,sA,sZ,sS]
        refine gT 15 64 (.string (bs x.v)) hS ?_ (hv:=fun w' hs=>by(have h0:=hs.cell lb1 e2;go_simp))
        simp only[Act.put,sA,sZ,sS]
        refine rg_call 16 (some 65) 196 #[.string (bs x.v),.bool true] rfl rfl kB (by rfl) (fun w'=>by first | rfl | go_simp) (R:=fun v w'=>v= .string (bs T)∧Ext (World.drew wz) w') ?_ ?_
        ·
         refine(HEC.out (World.drew wz)).mono ?_
         rintro e w' ⟨rfl,h⟩
         exact⟨_,rfl,rfl,h⟩
        rintro _ wr1 ⟨rfl,hBr1⟩
        have hS1:=hS.ext hBr1
        refine⟨hS1,?_⟩
        simp only[Act.put,sA,sZ,sS]
        refine gT 17 66 (.string (bs Zp3)) hS1 ?_
        simp only[Act.put,sA,sZ,sS]
        refine gT 18 67 (.string (bs Zp4)) hS1 ?_
        simp only[Act.put,sA,sZ,sS]
        refine gT 19 3 (.string (bs Zp4)) hS1 ?_
        simp only[Act.put,sA,sZ,sS]
        refine rg_done kB ?_
        clear qp0 rp0 qp1 rp1 qp2 rp2 qp3 rp3 qp4 rp4
        go_wp2_with fail
        go_roundw
        case rel=>exact⟨i+1,Zp4,by go_num,rfl,by omega,Lh (by rw[HZp.out];exact HN.out),hX.trans hS1⟩
        case measure=>exact mZ
       ·
        have hlI:¬(i:Int)< (la.length:Int):=by omega
        have HS2:Hid (S= [60]++nm++la.flatMap attrT):=Lh (by rw[HS.out,List.take_of_length_le kA])
        clear HS
        by_cases hk:ks.length=0
        ·
         have hkI:((ks.length:Int)==0)=true:=by rw[hk];rfl
         obtain⟨Ze0,hZe0⟩:∃z:Bytes,z=S++ [47,62]:=⟨_,rfl⟩
         have qe0:bs S++(⟨#[47,62]⟩:ByteArray)=bs Ze0:=by rw[hZe0];exact bs_append (S) ([47,62])
         have re0:¬9223372036854775807< (bs S).size+((⟨#[47,62]⟩:ByteArray)).size:=by rw[show(bs S:ByteArray)=bs (S) from rfl,show((⟨#[47,62]⟩:ByteArray):ByteArray)=bs ([47,62]) from rfl,bs_size,bs_size];simp only[List.length_append,List.length_cons,List.length_nil];omega
         have se0:(bs S).size≤9223372036854775805:=by rw[show(bs S:ByteArray)=bs (S) from rfl,bs_size];omega
         have HZe:=Lh hZe0
         clear hZe0
         have HN:Hid (S++ [47,62]=R):=Lh (by have:=HR.out;rw[if_pos hk]at this;rw[←this,HS2.out])
         have hE:=hE1.trans hX
         clear hk HS2 hSl
         go_wp2_with fail
         go_ret
         exact⟨ret_string (by rw[←HN.out,←HZe.out]),hE⟩
        ·
         have hkI:((ks.length:Int)==0)=false:=by rw[beq_eq_false_iff_ne];omega
         have hbn:=Hb.out.1
         have hbt:=Hb.out.2
         have hE:=hE1.trans hX
         obtain⟨T,hT⟩:∃T,txtL ks=T:=⟨_,rfl⟩
         have HTC:=Lh fun W (hEE:Ext wr W)=>HTL.out W (hE.trans hEE)
         rw[hT]at HTC hbt
         have HN:Hid (S++ [62]++T++ [60,47]++nm++ [62]=R):=Lh (by have:=HR.out;rw[if_neg hk]at this;rw[←this,HS2.out,hT])
         obtain⟨Zu0,hZu0⟩:∃z:Bytes,z=S++ [62]:=⟨_,rfl⟩
         have qu0:bs S++(⟨#[62]⟩:ByteArray)=bs Zu0:=by rw[hZu0];exact bs_append (S) ([62])
         have ru0:¬9223372036854775807< (bs S).size+((⟨#[62]⟩:ByteArray)).size:=by rw[show(bs S:ByteArray)=bs (S) from rfl,show((⟨#[62]⟩:ByteArray):ByteArray)=bs ([62]) from rfl,bs_size,bs_size];simp only[List.length_append,List.length_cons,List.length_nil];omega
         have su0:(bs S).size≤9223372036854775806:=by rw[show(bs S:ByteArray)=bs (S) from rfl,bs_size];omega
         obtain⟨Zu1,hZu1⟩:∃z:Bytes,z=S++ [62]++T:=⟨_,rfl⟩
         have qu1:bs Zu0++bs T=bs Zu1:=by rw[hZu1,hZu0];exact bs_append (S++ [62]) (T)
         have ru1:¬9223372036854775807< (bs Zu0).size+(bs T).size:=by rw[hZu0];rw[show(bs (S++ [62]):ByteArray)=bs (S++ [62]) from rfl,show(bs T:ByteArray)=bs (T) from rfl,bs_size,bs_size];simp only[List.length_append,List.length_cons,List.length_nil];omega
         obtain⟨Zu2,hZu2⟩:∃z:Bytes,z=S++ [62]++T++ [60,47]:=⟨_,rfl⟩
         have qu2:bs Zu1++(⟨#[60,47]⟩:ByteArray)=bs Zu2:=by rw[hZu2,hZu1];exact bs_append (S++ [62]++T) ([60,47])
         have ru2:¬9223372036854775807< (bs Zu1).size+((⟨#[60,47]⟩:ByteArray)).size:=by rw[hZu1];rw[show(bs (S++ [62]++T):ByteArray)=bs (S++ [62]++T) from rfl,show((⟨#[60,47]⟩:ByteArray):ByteArray)=bs ([60,47]) from rfl,bs_size,bs_size];simp only[List.length_append,List.length_cons,List.length_nil];omega
         have su2:(bs Zu1).size≤9223372036854775805:=by rw[hZu1];rw[show(bs (S++ [62]++T):ByteArray)=bs (S++ [62]++T) from rfl,bs_size];simp only[List.length_append,List.length_cons,List.length_nil];omega
         obtain⟨Zu3,hZu3⟩:∃z:Bytes,z=S++ [62]++T++ [60,47]++nm:=⟨_,rfl⟩
         have qu3:bs Zu2++bs nm=bs Zu3:=by rw[hZu3,hZu2];exact bs_append (S++ [62]++T++ [60,47]) (nm)
         have ru3:¬9223372036854775807< (bs Zu2).size+(bs nm).size:=by rw[hZu2];rw[show(bs (S++ [62]++T++ [60,47]):ByteArray)=bs (S++ [62]++T++ [60,47]) from rfl,show(bs nm:ByteArray)=bs (nm) from rfl,bs_size,bs_size];simp only[List.length_append,List.length_cons,List.length_nil];omega
         obtain⟨Zu4,hZu4⟩:∃z:Bytes,z=S++ [62]++T++ [60,47]++nm++ [62]:=⟨_,rfl⟩
         have qu4:bs Zu3++(⟨#[62]⟩:ByteArray)=bs Zu4:=by rw[hZu4,hZu3];exact bs_append (S++ [62]++T++ [60,47]++nm) ([62])
         have ru4:¬9223372036854775807< (bs Zu3).size+((⟨#[62]⟩:ByteArray)).size:=by rw[hZu3];rw[show(bs (S++ [62]++T++ [60,47]++nm):ByteArray)=bs (S++ [62]++T++ [60,47]++nm) from rfl,show((⟨#[62]⟩:ByteArray):ByteArray)=bs ([62]) from rfl,bs_size,bs_size];simp only[List.length_append,List.length_cons,List.length_nil];omega
         have su4:(bs Zu3).size≤9223372036854775806:=by rw[hZu3];rw[show(bs (S++ [62]++T++ [60,47]++nm):ByteArray)=bs (S++ [62]++T++ [60,47]++nm) from rfl,bs_size];simp only[List.length_append,List.length_cons,List.length_nil];omega
         have HZu:=Lh hZu4
         clear hZu0 hZu1 hZu2 hZu3 hZu4
         obtain⟨wz,hwz⟩:∃wz,wz=wr:=⟨_,rfl⟩
         subst hwz
         clear hk HS2 hSl hbn hbt hT
         go_wp2_with fail
         refine rg_begin (S:=Sx wz) kB (Sx.begin _) ?_
         have hS:Sx wz (World.drew wz):=(Sx.begin _)
         refine gT 0 74 (.string (bs S)) hS ?_
         simp only[Act.put,sA,sZ,sS]
         refine gT 1 75 (.string (bs Zu0)) hS ?_
         simp only[Act.put,sA,sZ,sS]
         refine gT 2 76 (.pointer (some ⟨w.heap.size,4,none⟩)) hS ?_
         simp only[Act.put,sA,sZ,sS]
         refine gT 3 77 (.slice bk ks.length ck) hS ?_ (hv:=fun w' hs=>by(have h0:=hs.cell l0r c4r;go_simp))
         simp only[Act.put,sA,sZ,sS]
         refine gT 7 81 (.pointer (some ⟨w.heap.size,1,none⟩)) hS ?_
         simp only[Act.put,sA,sZ,sS]
         refine gT 8 82 (.string (bs nm)) hS ?_ (hv:=fun w' hs=>by(have h0:=hs.cell l0r c1r;go_simp))
         simp only[Act.put,sA,sZ,sS]
         refine rg_call 4 (some 78) 174 #[.slice bk ks.length ck] rfl rfl kB (by rfl) (fun w'=>by first | rfl | go_simp) (R:=fun v w'=>v= .string (bs T)∧Ext (World.drew wz) w') ?_ ?_
         ·
          refine(HTC.out (World.drew wz) hS).mono ?_
          rintro e w' ⟨rfl,h⟩
          exact⟨_,rfl,rfl,h⟩
         rintro _ wr1 ⟨rfl,hBr1⟩
         have hS1:=hS.ext hBr1
         refine⟨hS1,?_⟩
         simp only[Act.put,sA,sZ,sS]
         refine gT 5 79 (.string (bs Zu1)) hS1 ?_
         simp only[Act.put,sA,sZ,sS]
         refine gT 6 80 (.string (bs Zu2)) hS1 ?_
         simp only[Act.put,sA,sZ,sS]
         refine gT 9 83 (.string (bs Zu3)) hS1 ?_
         simp only[Act.put,sA,sZ,sS]
         refine gT 10 84 (.string (bs Zu4)) hS1 ?_
         simp only[Act.put,sA,sZ,sS]
         refine gT 11 2 (.string (bs Zu4)) hS1 ?_
         simp only[Act.put,sA,sZ,sS]
         refine rg_done kB ?_
         clear qu0 ru0 qu1 ru1 qu2 ru2 qu3 ru3 qu4 ru4
         go_wp2_with fail
         go_ret
         exact⟨ret_string (by rw[←HN.out,←HZu.out]),hE.trans hS1⟩
     ·
      rw[if_pos k1]at hR
      have t1:(k !=1)=true:=by rw[bne_iff_ne];exact k1
      have HN:=Lh hR
      clear hR HTL hva hvk hcnt b1 b2 b3 b4 k2 k3 k4 k1 HE0
      go_enter Tryz.func191,Tryz.ntmps191
      go_wp2_with fail
      go_ret
      exact⟨ret_string (by rw[←HN.out];rfl),(Ext.refl w).alloc _⟩
def splitS (c:UInt8):Bytes→Bytes→List Bytes
 | cur,[]=> [cur]
 | cur,b::r=>if b=c then cur::splitS c [] r else splitS c (cur++ [b]) r
def segB (s:Bytes) (a b:Nat):Bytes:=(s.drop a).take (b - a)
theorem segB_snoc (s:Bytes) (a i:Nat) (ha:a≤i) (hi:i< s.length):segB s a (i+1)=segB s a i++ [s[i]]:=by
 unfold segB
 rw[show i+1 - a=(i - a)+1 by omega,List.take_add_one,List.getElem?_drop,show a+(i - a)=i by omega,List.getElem?_eq_getElem hi];rfl
theorem infoStr:(Tryz.prog.info? 9).map (fun i=>(i.zero,i.size,i.bytes))=some (some (.string ⟨#[]⟩),1,16):=by kernel_rfl
theorem new_one {w:World} {u:Value} {e:TypeId}:∀(j:Nat) (v:Value),[u][j]? =some v→(w.alloc (.cells #[u] e)).cell? ((⟨w.heap.size,0,none⟩:Addr).add j)=some v:=cell_one_new w u e
theorem split_any (s:Bytes) (c:UInt8) (w:World) (hs:s.length≤1048576):
  Calls Tryz.prog 147 #[.string (bs s),.int .u8 c.toNat] w fun e w'=>Ret (fun b=>w.heap.size≤b) (strsD (splitS c [] s)) e w'∧Ext w w':=by
 have hsz:(bs s).size≤1048576:=by rw[bs_size];exact hs
 obtain⟨R,hR⟩:∃R,splitS c [] s=R:=⟨_,rfl⟩
 rw[hR]
 have HR:=Lh hR
 have cb:=c.toNat_lt
 obtain⟨i0,hi,hz0,hz1,hz2⟩:=info_parts infoStr
 clear hR
 go_enter Tryz.func147,Tryz.ntmps147
 go_wp2_with fail
 go_loopw [5,6,7] (fun o f t wr=>∃(i fr:Nat) (L:List Bytes) (dv:Value),t= .int .i64 i∧f= .int .i64 fr∧dv=o∧i≤(bs s).size+1∧fr≤i∧L.length≤i∧Own wr (fun _=>False) w.heap.size 9 1 dv L.length (L.flatMap fun x=> [strD x])∧Ext w wr∧Hid ((i≤(bs s).size→L++splitS c (segB s fr i) (s.drop i)=R)∧((bs s).size< i→L=R))) (fun _ _ t _=>downV ((bs s).size+1) t)
 case atStart=>exact⟨0,0,[],_,rfl,rfl,rfl,Nat.zero_le _,Nat.le_refl _,Nat.le_refl _,Own.nil _ _ _ _ _,Ext.refl _,Lh ⟨fun _=>HR.out,fun h=>by omega⟩⟩
 case round=>
  obtain⟨i,fr,L,dv,rfl,rfl,rfl,hi1,hfr,hL,hown,hX,HI⟩:=hrel
  have hi0:=nZ0 i
  have hf0:=nZ0 fr
  have hfI:(fr:Int)≤(i:Int):=by omega
  have hwz:=hX.size
  by_cases hle:i≤(bs s).size
  ·
   have hleI:(i:Int)≤((bs s).size:Int):=by omega
   have HEX:Hid ((bs s).extract fr i=bs (segB s fr i)):=Lh (by rw[bs_extract];rfl)
   by_cases hlt:i< (bs s).size
   ·
    have hq:((i:Int)==((bs s).size:Int))=false:=by rw[beq_eq_false_iff_ne];omega
    have hltI:(i:Int)< ((bs s).size:Int):=by omega
    have hl2:i< s.length:=by rw[bs_size]at hlt;exact hlt
    have hc:(bs s)[i]'hlt=s[i]'hl2:=bs_getE s i hlt
    have HS:Hid (splitS c (segB s fr i) (s.drop i)=if s[i]'hl2=c then segB s fr i::splitS c [] (s.drop (i+1))else splitS c (segB s fr i++ [s[i]'hl2]) (s.drop (i+1))):=Lh (by rw[drop_one s i hl2,splitS])
    by_cases hb:s[i]'hl2=c
    ·
     have hbq:((((bs s)[i]'hlt).toNat:Int)==(c.toNat:Int))=true:=by rw[hc,hb];exact beq_self_eq_true _
     have HN:Hid ((i+1≤(bs s).size→(L++ [segB s fr i])++splitS c (segB s (i+1) (i+1)) (s.drop (i+1))=R)∧((bs s).size< i+1→(L++ [segB s fr i])=R)):=Lh ⟨fun _=>by
      have h1:=HI.out.1 hle
      rw[HS.out,if_pos hb]at h1
      rw[←h1,List.append_assoc,show segB s (i+1) (i+1)= [] by unfold segB;simp];rfl,fun h=>by omega⟩
     clear HS HI hb hc
     obtain⟨us,hrow,hreps⟩:=hown.rows
     have hex:=HEX.out
     have hseg:(segB s fr i).length≤1048576:=by unfold segB;rw[List.length_take,List.length_drop];omega
     go_wp2_with (at_builtin;refine wpList_append_own_at _ rfl (.tmp 25) (.tmp 30) _ rfl w.heap.size 9 i0 (.string ⟨#[]⟩) 1 16 Tryz.underlying27 hi hz0 hz1 hz2 rfl kD dv L.length us rfl (hrow.alloc _) ⟨wr.heap.size,0,none⟩ 1 1 [.string (bs (segB s fr i))] rfl rfl new_one kE kC kA kM ?_;intro v2 w3 hown2 hgrow2 _ hat2)
     have hX2:Ext w w3:=hX.grown_own hrow hgrow2
     have hO2:Own w3 (fun _=>False) w.heap.size 9 1 v2 (L++ [segB s fr i]).length ((L++ [segB s fr i]).flatMap fun x=> [strD x]):=by
      rw[List.length_append,List.flatMap_append]
      exact Own.push ((hreps.ext ((Ext.refl wr).alloc _)).ok fun b hb=>⟨hb.1,hb.2.1,by simp;omega⟩) (Reps.cons (Rep.string _ _ _ kU) (Reps.nil _ _)) hown2 hgrow2 hat2
     clear hown2 hgrow2 hrow hreps hown hX hat2 hex hseg
     go_wp2_with fail
     go_roundw
     case rel=>exact⟨i+1,i+1,L++ [segB s fr i],v2,by go_num,by go_num,rfl,by omega,by omega,by rw[List.length_append];simp;omega,hO2,hX2,HN⟩
     case measure=>exact mZ
    ·
     have hbq:((((bs s)[i]'hlt).toNat:Int)==(c.toNat:Int))=false:=by
      rw[hc,beq_eq_false_iff_ne];intro e;exact hb (UInt8.toNat_inj.1 kA)
     have HN:Hid ((i+1≤(bs s).size→L++splitS c (segB s fr (i+1)) (s.drop (i+1))=R)∧((bs s).size< i+1→L=R)):=Lh ⟨fun _=>by
      have h1:=HI.out.1 hle
      rw[HS.out,if_neg hb,←segB_snoc s fr i hfr hl2]at h1
      exact h1,fun h=>by omega⟩
     clear HS HI hb hc HEX
     go_wp2_with fail
     go_roundw
     case rel=>exact⟨i+1,fr,L,dv,by go_num,rfl,rfl,by omega,by omega,by omega,hown,hX,HN⟩
     case measure=>exact mZ
   ·
    have hei:i=(bs s).size:=by omega
    have hq:((i:Int)==((bs s).size:Int))=true:=by rw[hei];exact beq_self_eq_true _
    have HN:Hid ((i+1≤(bs s).size→(L++ [segB s fr i])++splitS c (segB s (i+1) (i+1)) (s.drop (i+1))=R)∧((bs s).size< i+1→(L++ [segB s fr i])=R)):=Lh ⟨fun h=>by omega,fun _=>by
     have h1:=HI.out.1 hle
     rw[List.drop_of_length_le (by rw[bs_size]at hlt;omega),splitS]at h1
     exact h1⟩
    have hlt':=Lh hlt
    clear HI hlt hei
    obtain⟨us,hrow,hreps⟩:=hown.rows
    have hex:=HEX.out
    have hseg:(segB s fr i).length≤1048576:=by unfold segB;rw[List.length_take,List.length_drop];omega
    go_wp2_with (at_builtin;refine wpList_append_own_at _ rfl (.tmp 25) (.tmp 30) _ rfl w.heap.size 9 i0 (.string ⟨#[]⟩) 1 16 Tryz.underlying27 hi hz0 hz1 hz2 rfl kD dv L.length us rfl (hrow.alloc _) ⟨wr.heap.size,0,none⟩ 1 1 [.string (bs (segB s fr i))] rfl rfl new_one kE kC kA kM ?_;intro v2 w3 hown2 hgrow2 _ hat2)
    have hX2:Ext w w3:=hX.grown_own hrow hgrow2
    have hO2:Own w3 (fun _=>False) w.heap.size 9 1 v2 (L++ [segB s fr i]).length ((L++ [segB s fr i]).flatMap fun x=> [strD x]):=by
     rw[List.length_append,List.flatMap_append]
     exact Own.push ((hreps.ext ((Ext.refl wr).alloc _)).ok fun b hb=>⟨hb.1,hb.2.1,by simp;omega⟩) (Reps.cons (Rep.string _ _ _ kU) (Reps.nil _ _)) hown2 hgrow2 hat2
    clear hown2 hgrow2 hrow hreps hown hX hat2 hex hseg
    go_wp2_with fail
    go_roundw
    case rel=>exact⟨i+1,i+1,L++ [segB s fr i],v2,by go_num,by go_num,rfl,by omega,by omega,by rw[List.length_append];simp;omega,hO2,hX2,HN⟩
    case measure=>exact mZ
  ·
   have hleI:¬(i:Int)≤((bs s).size:Int):=by omega
   have HN:Hid (L=R):=Lh (HI.out.2 kA)
   clear HI
   go_wp2_with fail
   go_ret
   refine⟨⟨dv,rfl,?_⟩,hX⟩
   rw[←HN.out]
   exact hown.rep.ok (fun b hb=>by rcases hb with h | h;exact h.elim;exact h)
def attrGet (x:Bytes):List Attr→Option Bytes
 | []=>none
 | a::r=>if a.n=x then some a.v else attrGet x r
def manyK (x:Bytes):List Node→Nat→Node→Nat×Node
 | [],m,n=>(m,n)
 | k::r,m,n=>if k.kind=1∧k.name=x then manyK x r (m+1) k else manyK x r m n
def zeroN:Node:= .mk 0 [] [] [] []
def walkV:Node→List Bytes→Option Bytes
 | n,[]=>some (txtL n.kids)
 | n,c::cs=>if c.getD 0 0=64 then attrGet (c.drop 1) n.attrs else if(manyK c n.kids 0 zeroN).1=1 then walkV (manyK c n.kids 0 zeroN).2 cs else none
def valS (n:Node) (path:Bytes):Option Bytes:=if path= [46]then some (txtL n.kids)else walkV n (splitS 47 [] path)
theorem manyK_cnt (x:Bytes):∀(l:List Node) (m:Nat) (n:Node) (C:Nat),cntL l≤C→cntN n≤C→cntN (manyK x l m n).2≤C
 | [],m,n,C,_,h=>h
 | k::r,m,n,C,hl,h=>by
  unfold manyK
  rw[cntL]at hl
  split
  ·
   exact manyK_cnt x r _ _ C kA kA
  ·
   exact manyK_cnt x r _ _ C kA h
theorem manyK_le (x:Bytes):∀(l:List Node) (m:Nat) (n:Node),m≤(manyK x l m n).1∧(manyK x l m n).1≤m+l.length
 | [],m,n=>by simp[manyK]
 | k::r,m,n=>by
  unfold manyK
  split
  ·
   have:=manyK_le x r (m+1) k;simp only[List.length_cons];omega
  ·
   have:=manyK_le x r m n;simp only[List.length_cons];omega
theorem cnt_kids (n:Node):cntL n.kids+cntA n.attrs+1≤cntN n:=by cases n;rw[cntN];simp only[Node.kids,Node.attrs];omega
theorem cntL_len:∀l:List Node,l.length≤cntL l
 | []=>by simp[cntL]
 | n::r=>by have:=cntL_len r;have:=cntN_pos n;rw[cntL,List.length_cons];omega
theorem nodestxt_any (ks:List Node) (p:Nat→Prop) (v:Value) (w:World) (hcnt:cntL ks≤1048576) (hv:Rep w p v (nodesD ks)):
  Calls Tryz.prog 174 #[v] w fun e w'=>e= .returned (.string (bs (txtL ks)))∧Ext w w':=
 nodestxt_of (nszL ks) (Lh (nodetxt_any _)) ks p v w (fun i h=>nszL_get ks i h) hcnt hv
structure B5 (W:World) (b:Nat) (n:Node) (xa xk:Value):Prop where
 lt:b< W.heap.size
 c0:W.cell? ⟨b,0,none⟩=some (.int .i64 n.kind)
 c1:W.cell? ⟨b,1,none⟩=some (.string (bs n.name))
 c2:W.cell? ⟨b,2,none⟩=some (.string (bs n.text))
 c3:W.cell? ⟨b,3,none⟩=some xa
 c4:W.cell? ⟨b,4,none⟩=some xk
 f0:W.frozen? ⟨b,0,none⟩=false
 f1:W.frozen? ⟨b,1,none⟩=false
 f2:W.frozen? ⟨b,2,none⟩=false
 f3:W.frozen? ⟨b,3,none⟩=false
 f4:W.frozen? ⟨b,4,none⟩=false
theorem B5.ext {W W':World} {b:Nat} {n:Node} {xa xk:Value} (h:B5 W b n xa xk) (hB:Ext W W'):B5 W' b n xa xk:=
 ⟨Nat.lt_of_lt_of_le h.lt hB.size,hB.keep h.lt h.c0,hB.keep h.lt h.c1,hB.keep h.lt h.c2,hB.keep h.lt h.c3,hB.keep h.lt h.c4,hB.free h.lt h.f0,hB.free h.lt h.f1,hB.free h.lt h.f2,hB.free h.lt h.f3,hB.free h.lt h.f4⟩
def st5 (W:World) (b:Nat) (n:Node) (xa xk:Value):World:=((((W.setCell ⟨b,0,none⟩ (.int .i64 n.kind)).setCell ⟨b,1,none⟩ (.string (bs n.name))).setCell ⟨b,2,none⟩ (.string (bs n.text))).setCell ⟨b,3,none⟩ xa).setCell ⟨b,4,none⟩ xk
theorem B5.put {W:World} {b:Nat} {m n:Node} {ya yk xa xk:Value} (h:B5 W b m ya yk):B5 (st5 W b n xa xk) b n xa xk:=by
 have l:=h.lt
 have c0:=h.c0;have c1:=h.c1;have c2:=h.c2;have c3:=h.c3;have c4:=h.c4
 have f0:=h.f0;have f1:=h.f1;have f2:=h.f2;have f3:=h.f3;have f4:=h.f4
 unfold st5
 exact⟨by simpa using l,by simp[go_sem,c0,c1,c2,c3,c4],by simp[go_sem,c0,c1,c2,c3,c4],by simp[go_sem,c0,c1,c2,c3,c4],by simp[go_sem,c0,c1,c2,c3,c4],by simp[go_sem,c0,c1,c2,c3,c4],by simp[go_sem,f0],by simp[go_sem,f1],by simp[go_sem,f2],by simp[go_sem,f3],by simp[go_sem,f4]⟩
theorem Ext.st5 {a w:World} (h:Ext a w) {b:Nat} (hb:a.heap.size≤b) (n:Node) (xa xk:Value):Ext a (st5 w b n xa xk):=
 ((((h.set hb _).set hb _).set hb _).set hb _).set hb _
def Mid (lo:Nat) (a w:World):Prop:=a.heap.size≤w.heap.size∧∀b,lo≤b→b< a.heap.size→w.heap[b]? =a.heap[b]?
theorem Mid.ext {lo:Nat} {a w w':World} (h:Mid lo a w) (hB:Ext w w'):Mid lo a w':=⟨Nat.le_trans h.1 hB.size,fun b h1 h2=>(Below.block hB b (Nat.lt_of_lt_of_le h2 h.1)).trans (h.2 b h1 h2)⟩
theorem Mid.set {lo:Nat} {a w:World} (h:Mid lo a w) {p:Addr} (hp:p.block< lo) (u:Value):Mid lo a (w.setCell p u):=⟨by simpa using h.1,fun b h1 h2=>by rw[Below.heap_setCell _ _ _ _ kA];exact h.2 b h1 h2⟩
theorem Mid.st5 {lo:Nat} {a w:World} (h:Mid lo a w) {b:Nat} (hb:b< lo) (n:Node) (xa xk:Value):Mid lo a (st5 w b n xa xk):=((((h.set (p:=⟨b,0,none⟩) hb _).set (p:=⟨b,1,none⟩) hb _).set (p:=⟨b,2,none⟩) hb _).set (p:=⟨b,3,none⟩) hb _).set (p:=⟨b,4,none⟩) hb _
theorem Rep.mid {lo:Nat} {a w:World} {v:Value} {d:DV} (h:Rep a (fun b=>lo≤b) v d) (hm:Mid lo a w):Rep w (fun b=>lo≤b) v d:=h.kept fun b hb hlt=>hm.2 b hb hlt
def OutV (r:Option Bytes):Value:= .tuple #[.string (bs (r.getD [])),.bool r.isSome]
end Go.Proofs.YtngmgjodcnknoaaGreatDoor
