/-
 ref22.End. Helper lemmas;no statement of the seat is proved here.
-/
import Derived.Test.YtngmgjodcnknoaaGreatDoorU24
namespace Go.Proofs.YtngmgjodcnknoaaGreatDoor
open Go.RowKit
set_option maxHeartbeats 32000000
set_option maxRecDepth 100000
set_option linter.unusedVariables false
set_option linter.unusedSimpArgs false
theorem strR_rep {W:World} {base:Nat} {v:Value} {l:List Bytes} (h:W.ownsRow base 9 1 v l.length (strR l)) (hm:∀x∈l,x.length≤1000000000000):Rep W (fun _=>True) v (strsD l):=by
 have hr:∀(q:Nat→Prop) (l:List Bytes),(∀x∈l,x.length≤1000000000000)→Reps W q (strR l) (l.flatMap fun c=> [.v (.string (bs c))]):=fun q l=>by
  induction l with
  | nil=>intro _;exact Reps.nil _ _
  | cons a l ih=>
   intro h
   have:=h a List.mem_cons_self
   exact Reps.cons (Rep.string _ _ _ kU) (ih fun x hx=>h x (List.mem_cons_of_mem _ hx))
 exact(Own.rep (p:=fun _=>True) ⟨_,h,hr _ l hm⟩).ok fun _ _=>trivial
theorem rend_any (nm:Bytes) (key:List Bytes) (p:Nat→Prop) (vk:Value) (w:World) (hend:(endS ⟨nm,key⟩).length≤1000000000000) (h:Rep w p vk (strsD key)):
  Calls Tryz.prog 116 #[.agg #[.string (bs nm),vk]] w fun e w'=>e= .returned (.string (bs (endS ⟨nm,key⟩)))∧Ext w w':=by
 obtain⟨i0,hi0',hz0,hz1,hz2⟩:=info_parts infoString
 obtain⟨ka,kc,rfl,hk1,hk2⟩:=h.count z_str kA
 have hn:nm.length≤1000000000000:=Nat.le_trans (endS_name ⟨nm,key⟩) hend
 have HEND:=Lh hend
 have HK:=Lh h
 obtain⟨wz,hwz⟩:∃W',w.alloc (.cells #[.string (bs nm),.slice ka key.length kc] 101)=W':=⟨_,rfl⟩
 have hEz:Ext w wz:=by rw[←hwz];exact(Ext.refl _).alloc _
 have hbz:wz.heap[w.heap.size]? =some (.cells #[.string (bs nm),.slice ka key.length kc] 101 (0,0)):=by rw[←hwz];exact Array.getElem?_push_size
 have c0:=blk_cell hbz (k:=0) rfl;have c1:=blk_cell hbz (k:=1) rfl
 have lbx:=blk_lt hbz
 have HZ:=Lh hEz
 clear hend h hEz hbz
 go_enter Tryz.func116,Tryz.ntmps116
 by_cases hkn:key= []
 ·
  subst hkn
  have he:endS ⟨nm,[]⟩=nm:=rfl
  simp only[List.length_nil]at*
  go_wp2_with fail
  go_ret
  rw[he]
  exact⟨rfl,HZ.out⟩
 ·
  have hpos:0< key.length:=List.length_pos_iff.2 hkn
  have hpI:(0:Int)< (key.length:Int):=by omega
  have hpe:((key.length:Int)==0)=false:=by rw[beq_eq_false_iff_ne];omega
  have HKN:=Lh hkn
  have hjl:(Lib.join (key.map pescS) [44]).length+nm.length+2≤1000000000000:=by have:=HEND.out;rw[endS_join nm key hkn]at this;omega
  have hk:key.length≤1000000000001:=by have:=join_count (key.map pescS);rw[List.length_map]at this;omega
  have HKM:Hid (∀k∈key,(pescS k).length≤1000000000000):=Lh fun k hk=>by
   have h1:=join_mem (key.map pescS) (pescS k) (List.mem_map.2 ⟨k,hk,rfl⟩)
   omega
  have HJL:=Lh hjl
  obtain⟨bx,hbx⟩:∃b,w.heap.size=b:=⟨_,rfl⟩
  have HC1:=Lh (And.intro c0 (And.intro c1 lbx))
  have HBX:=Lh hbx
  clear hkn hjl hbx
  go_wp2_with fail
  clear c0 c1 hwz
  go_loopw [3,4] (fun dv t wr=>∃i:Nat,t= .int .i64 i∧i≤key.length∧Hid (wr.ownsRow wz.heap.size 9 1 dv i (strR ((key.take i).map pescS))∧Ext wz wr)) (fun _ t _=>downV key.length t)
  case atStart=>exact⟨0,rfl,Nat.zero_le _,Lh ⟨World.ownsRow_nil _ _ _ _,Ext.refl _⟩⟩
  case round=>
   obtain⟨i,rfl,hi,HH⟩:=hrel
   have hi0:=nZ0 i
   have hws:wz.heap.size≤wr.heap.size:=HH.out.2.size
   have q0:=HH.out.2.keep lbx HC1.out.1
   have q1:=HH.out.2.keep lbx HC1.out.2.1
   by_cases hlt:i< key.length
   ·
    have hlI:(i:Int)< (key.length:Int):=by omega
    obtain⟨g,o,rfl,lg,_,x0⟩:=str_at (HK.out.ext (HZ.out.trans HH.out.2)) i hlt
    have hxl:=HKM.out key[i] (List.getElem_mem hlt)
    have hT:(key.take (i+1)).map pescS=(key.take i).map pescS++ [pescS key[i]]:=by rw[List.take_succ_eq_append_getElem hlt,List.map_append];rfl
    have HT:=Lh hT
    obtain⟨x,hx⟩:∃x,key[i]=x:=⟨_,rfl⟩
    rw[hx]at x0 hxl HT
    have HC:=Lh fun W=>rescape_any x hxl W
    clear hx hT
    go_wp2_with fail
    refine(HC.out _).mono ?_
    rintro e w3 ⟨rfl,hw3⟩
    subst hw3
    obtain⟨E,hE0⟩:∃E,pescS x=E:=⟨_,rfl⟩
    rw[hE0]at HT
    rw[hE0]
    have hE:Ext w3 (w3.alloc (.cells #[.string (bs E)] 9)):=(Ext.refl _).alloc _
    clear hE0 HC x0 q0 q1
    go_wp2_with (at_builtin;refine wpList_append_own_at _ rfl (.tmp 18) (.tmp 25) _ rfl wz.heap.size 9 i0 (.string ⟨#[]⟩) 1 16 Tryz.underlying27 hi0' hz0 hz1 hz2 rfl kD u3 i (strR ((key.take i).map pescS)) rfl (rows_ext HH.out.1 hE) ⟨w3.heap.size,0,none⟩ 1 1 [.string (bs E)] rfl rfl kQ kE kC kA kM ?_;intro v6 w6 hown6 hgrow6 _ hat6;refine Hid.out ?_)
    refine Lh ?_
    have hX6:Ext wz w6:=Below.grown (HH.out.2.trans hE) hgrow6 (Below.size (HH.out.2.trans hE)) fun j hj=>((rows_ext HH.out.1 hE).lt j hj).1
    go_wp2_with fail
    go_roundw
    case rel=>
     refine⟨i+1,by go_num,by omega,Lh ⟨?_,hX6⟩⟩
     rw[HT.out]
     unfold strR at hown6⊢
     rw[List.map_append]
     exact hown6
    case measure=>exact mZ
   ·
    have hlI:¬(i:Int)< (key.length:Int):=by omega
    obtain rfl:i=key.length:=by omega
    have hown:=HH.out.1
    rw[List.take_length]at hown
    have hln:((key.map pescS).length)=key.length:=List.length_map _
    rw[←hln]at hown
    have hrep:Rep wr (fun _=>True) u3 (strsD (key.map pescS)):=strR_rep hown (fun x hx=>by
     obtain⟨k,hk,rfl⟩:=List.mem_map.1 hx
     exact HKM.out k hk)
    have HJ0:=Lh fun W (hE:Ext wr W)=>rjoin_any (key.map pescS) (fun _=>True) u3 W (by have:=HJL.out;omega) (hrep.ext hE)
    obtain⟨a3,c3,rfl⟩:=own_slice' hown
    rw[hln]at HJ0⊢
    obtain⟨J,hJ⟩:∃J,Lib.join (key.map pescS) [44]=J:=⟨_,rfl⟩
    have hJl:J.length+nm.length+2≤1000000000000:=by rw[←hJ];exact HJL.out
    rw[hJ]at HJ0
    have HJ:=Lh fun W (hE:Ext wr W)=>(HJ0.out W hE).mono (R':=fun e w'=>e= .returned (.string (bs J))∧Ext W w') fun e w' h=>⟨h.1,by rw[h.2];exact Ext.refl _⟩
    have hres:nm++ [123]++J++ [125]=endS ⟨nm,key⟩:=by
     unfold endS
     rw[if_neg HKN.out,hJ]
    have HRES:=Lh hres
    have HX:=Lh (HZ.out.trans HH.out.2)
    have s0:=q0
    have lbr:w.heap.size< wr.heap.size:=Nat.lt_of_lt_of_le lbx HH.out.2.size
    clear hown hln hrep HJ0 hJ hres HH
    go_wp2_with fail
    refine rg_begin (S:=Sx wr) kB (Sx.begin _) ?_
    have hSe:Sx wr (World.drew wr):=(Sx.begin _)
    refine gT 0 27 (.pointer (some ⟨w.heap.size,0,none⟩)) hSe ?_
    simp only[Act.put,sA,sZ,sS]
    refine gT 1 28 (.string (bs nm)) hSe ?_ (hv:=fun w' hs=>by(have h0:=hs.cell lbr s0;go_simp))
    simp only[Act.put,sA,sZ,sS]
    refine gT 2 29 (.string (bs (nm++([123]:List UInt8)))) hSe ?_ (hv:=fun w' hs=>by exact exec_sadd (s:=nm) (t:=([123]:List UInt8)) rfl rfl rfl kW _)
    simp only[Act.put,sA,sZ,sS]
    refine gT 3 30 (.slice a3 key.length c3) hSe ?_
    simp only[Act.put,sA,sZ,sS]
    refine rg_call 4 (some 31) 150 #[.slice a3 key.length c3,.string {data:= #[44]}] rfl rfl kB (by rfl) (fun w'=>by first | rfl | go_simp) (R:=fun v w'=>v= .string (bs J)∧Ext (World.drew wr) w') ?_ ?_
    ·
     refine(HJ.out (World.drew wr) hSe).mono ?_
     rintro e w' ⟨rfl,h⟩
     exact⟨_,rfl,rfl,h⟩
    rintro _ wre1 ⟨rfl,hBre1⟩
    have hSe1:=hSe.ext hBre1
    refine⟨hSe1,?_⟩
    simp only[Act.put,sA,sZ,sS]
    refine gT 5 32 (.string (bs (((nm++([123]:List UInt8)))++J))) hSe1 ?_ (hv:=fun w' hs=>by exact exec_sadd (s:=(nm++([123]:List UInt8))) (t:=J) rfl rfl rfl kW _)
    simp only[Act.put,sA,sZ,sS]
    refine gT 6 33 (.string (bs (((((nm++([123]:List UInt8)))++J))++([125]:List UInt8)))) hSe1 ?_ (hv:=fun w' hs=>by exact exec_sadd (s:=(((nm++([123]:List UInt8)))++J)) (t:=([125]:List UInt8)) rfl rfl rfl kW _)
    simp only[Act.put,sA,sZ,sS]
    refine gT 7 2 (.string (bs (((((nm++([123]:List UInt8)))++J))++([125]:List UInt8)))) hSe1 ?_
    simp only[Act.put,sA,sZ,sS]
    refine rg_done kB ?_
    have HFX:Hid (Ext wr wre1):=Lh hSe1
    rw[HRES.out]
    clear q0 q1 s0
    go_wp2_with fail
    go_ret
    exact⟨rfl,HX.out.trans HFX.out⟩
end Go.Proofs.YtngmgjodcnknoaaGreatDoor
