/-
 view.escape,step. Helper lemmas;no statement of the seat is proved here.
-/
import Derived.Test.YtngmgjodcnknoaaGreatDoorU9
import Derived.Test.YtngmgjodcnknoaaGreatDoorZhelf
import Derived.Test.YtngmgjodcnknoaaGreatDoorU15
import Derived.Test.YtngmgjodcnknoaaGreatDoorU20
namespace Go.Proofs.YtngmgjodcnknoaaGreatDoor
open Go.RowKit
set_option maxHeartbeats 32000000
set_option maxRecDepth 100000
set_option linter.unusedVariables false
set_option linter.unusedSimpArgs false
def pescS (s:Bytes):Bytes:=s.flatMap fun c=>if c=92∨c=123∨c=125∨c=44∨c=47 then [92,c]else [c]
def byR (L:Bytes):List Value:=L.map fun c=> .int .u8 (c.toNat:Int)
theorem byR_snoc (L:Bytes) (c:UInt8):byR (L++ [c])=byR L++ [.int .u8 (c.toNat:Int)]:=by simp[byR]
def specB (c:UInt8):Bool:=decide (c=92∨c=123∨c=125∨c=44∨c=47)
theorem idx_spec (c:UInt8):(0≤Lib.indexByte [92,123,125,44,47] ((c.toNat:Int).toNat.toUInt8))↔specB c=true:=by
 rw[Int.toNat_natCast,show c.toNat.toUInt8=c from by simp]
 have h:∀f:Fin 256,(0≤Lib.indexByte [92,123,125,44,47] (UInt8.ofNat f.val))↔specB (UInt8.ofNat f.val)=true:=by decide+kernel
 have:=h ⟨c.toNat,c.toNat_lt⟩
 simpa using this
theorem pescS_snoc (s:Bytes) (c:UInt8):pescS (s++ [c])=pescS s++(if specB c=true then [92,c]else [c]):=by
 unfold pescS specB
 rw[List.flatMap_append,List.flatMap_cons,List.flatMap_nil,List.append_nil]
 simp only[decide_eq_true_eq]
theorem pescS_len (s:Bytes):(pescS s).length≤2*s.length:=by
 induction s with
 | nil=>exact Nat.le_refl _
 | cons a s ih=>
  unfold pescS at ih⊢
  rw[List.flatMap_cons,List.length_append,List.length_cons]
  have:(if a=92∨a=123∨a=125∨a=44∨a=47 then [92,a]else [a]).length≤2:=by split<;> simp
  omega
theorem pescS_take (s:Bytes) (i:Nat):(pescS (s.take i)).length≤(pescS s).length:=by
 conv=>rhs;rw[←List.take_append_drop i s]
 unfold pescS
 rw[List.flatMap_append,List.length_append]
 omega
theorem pescS_ge (s:Bytes):s.length≤(pescS s).length:=by
 induction s with
 | nil=>exact Nat.le_refl _
 | cons a s ih=>
  unfold pescS at ih⊢
  rw[List.flatMap_cons,List.length_append,List.length_cons]
  have:1≤(if a=92∨a=123∨a=125∨a=44∨a=47 then [92,a]else [a]).length:=by split<;> simp
  omega
theorem infoByte:(Tryz.prog.info? 5).map (fun i=>(i.zero,i.size,i.bytes))=some (some (.int .u8 0),1,1):=by kernel_rfl
theorem byR_at (L:Bytes) (j:Nat) (hj:j< L.length):(byR L)[j]? =some (.int .u8 (L[j].toNat:Int)):=by simp[byR,hj]
theorem byR_back {W:World} {base:Nat} {v:Value} {L:Bytes} (h:W.ownsRow base 5 1 v L.length (byR L)):∃a c,v= .slice a L.length c∧(convert 139 9 v).run Tryz.prog W= .ok (.string (bs L)) W:=by
 obtain⟨h1,⟨rfl,h0⟩ | ⟨g,cap,cur,rfl,hg,hh,h3⟩⟩:=h
 ·
  obtain rfl:L= []:=List.eq_nil_of_length_eq_zero h0
  exact⟨_,_,rfl,by kernel_rfl⟩
 ·
  refine⟨_,_,rfl,run_convert_bytes_back (P:=Tryz.prog) W 139 9 5 ⟨g,0,none⟩ cap L Tryz.underlying139 Tryz.underlying5 Tryz.underlying9 fun j hj=> ?_⟩
  exact World.ownsRow.cells (g:=g) ⟨h1,.inr ⟨g,cap,cur,rfl,hg,hh,h3⟩⟩ rfl j _ (byR_at L j hj)
theorem idxb_any (c:UInt8) (w:World):∃x:Int,(0≤x↔specB c=true)∧Calls Tryz.prog 152 #[.string ⟨#[92,123,125,44,47]⟩,.int .u8 (c.toNat:Int)] w fun e w'=>e= .returned (.int .i64 x)∧w'=w:=
 ⟨_,idx_spec c,Tryz.strings_IndexByte _ _ w⟩
theorem escape_any (s:Bytes) (hs:(pescS s).length≤1000000000000) (w:World):Calls Tryz.prog 126 #[.string (bs s)] w fun e w'=>e= .returned (.string (bs (pescS s)))∧Ext w w':=by
 have hsl:s.length≤1000000000000:=Nat.le_trans (pescS_ge s) hs
 obtain⟨i0,hi0',hz0,hz1,hz2⟩:=info_parts infoByte
 go_enter Tryz.func126,Tryz.ntmps126
 go_wp2_with fail
 go_loopw [3,7] (fun dv t wr=>∃i:Nat,t= .int .i64 i∧i≤s.length∧Hid (wr.ownsRow w.heap.size 5 1 dv (pescS (s.take i)).length (byR (pescS (s.take i)))∧Ext w wr)) (fun _ t _=>downV s.length t)
 case atStart=>exact⟨0,rfl,Nat.zero_le _,Lh ⟨World.ownsRow_nil _ _ _ _,Ext.refl _⟩⟩
 case round=>
  obtain⟨i,rfl,hi,HH⟩:=hrel
  have hi0:=nZ0 i
  obtain⟨L,hL⟩:∃L,pescS (s.take i)=L:=⟨_,rfl⟩
  have hLl:L.length≤1000000000000:=by rw[←hL];exact Nat.le_trans (pescS_take s i) hs
  rw[hL]at HH
  have hws:w.heap.size≤wr.heap.size:=HH.out.2.size
  by_cases hlt:i< s.length
  ·
   have hlI:(i:Int)< (s.length:Int):=by omega
   have hib:i< (bs s).size:=by rw[bs_size];exact hlt
   obtain⟨c,hc⟩:∃c,(bs s)[i]=c:=⟨_,rfl⟩
   have hcs:s[i]=c:=hc
   have hN:pescS (s.take (i+1))=L++(if specB c=true then [92,c]else [c]):=by rw[List.take_succ_eq_append_getElem hlt,pescS_snoc,hL];exact congrArg (fun c=>L++(if specB c=true then [92,c]else [c])) hcs
   obtain⟨x,hx,HC⟩:=idxb_any c wr
   have HX:=Lh (And.intro hc hN)
   have hL0:=Lh hL
   have HCC:=Lh HC
   have hc255:(c.toNat:Int)< 256:=by have:=c.toNat_lt;omega
   clear hcs hN hL HC
   go_wp2_with fail
   refine HCC.out.mono ?_
   rintro e w3 ⟨rfl,hw3⟩
   subst hw3
   clear HCC
   cases hsp:specB c with
   | true=>
    have hx0:0≤x:=hx.2 hsp
    have HSP:=Lh hsp
    have hE:Ext w3 (w3.alloc (.cells #[.int .u8 92] 5)):=(Ext.refl _).alloc _
    clear hx hsp
    go_wp2_with (at_builtin;refine wpList_append_own_at _ rfl (.tmp 15) (.tmp 16) _ rfl w.heap.size 5 i0 (.int .u8 0) 1 1 Tryz.underlying139 hi0' hz0 hz1 hz2 rfl kD u3 L.length (byR L) rfl (rows_ext HH.out.1 hE) ⟨w3.heap.size,0,none⟩ 1 1 [.int .u8 (92)] rfl rfl kQ kE kC kA kM ?_;intro v2 w5 hown5 hgrow5 _ hat5;refine Hid.out ?_)
    refine Lh ?_
    have hX5:Ext w w5:=Below.grown (HH.out.2.trans hE) hgrow5 (Below.size (HH.out.2.trans hE)) fun j hj=>((rows_ext HH.out.1 hE).lt j hj).1
    have H5:=Lh (And.intro hown5 hX5)
    have hs5:w.heap.size≤w5.heap.size:=hX5.size
    have hE2:Ext w5 (w5.alloc (.cells #[.int .u8 (c.toNat:Int)] 5)):=(Ext.refl _).alloc _
    clear hown5 hgrow5 hat5 hX5 hE
    go_wp2_with (at_builtin;refine wpList_append_own_at _ rfl (.tmp 18) (.tmp 22) _ rfl w.heap.size 5 i0 (.int .u8 0) 1 1 Tryz.underlying139 hi0' hz0 hz1 hz2 rfl kD v2 (L.length+1) (byR L++ [.int .u8 92]) rfl (rows_ext H5.out.1 hE2) ⟨w5.heap.size,0,none⟩ 1 1 [.int .u8 ((c.toNat:Int))] rfl rfl kQ kE kC kA kM ?_;intro v6 w6 hown6 hgrow6 _ hat6;refine Hid.out ?_)
    refine Lh ?_
    have hX6:Ext w w6:=Below.grown (H5.out.2.trans hE2) hgrow6 (Below.size (H5.out.2.trans hE2)) fun j hj=>((rows_ext H5.out.1 hE2).lt j hj).1
    have hN:=HX.out.2
    rw[HSP.out,if_pos rfl]at hN
    go_wp2_with fail
    go_roundw
    case rel=>
     refine⟨i+1,by go_num,by omega,Lh ⟨?_,hX6⟩⟩
     rw[hN,show L++ [92,c]=(L++ [92])++ [c] from by simp,byR_snoc,byR_snoc,List.length_append,List.length_append]
     exact hown6
    case measure=>exact mZ
   | false=>
    have hx0:¬0≤x:=fun h=>by have:=hx.1 h;rw[hsp]at this;cases this
    have HSP:=Lh hsp
    have hE:Ext w3 (w3.alloc (.cells #[.int .u8 (c.toNat:Int)] 5)):=(Ext.refl _).alloc _
    clear hx hsp
    go_wp2_with (at_builtin;refine wpList_append_own_at _ rfl (.tmp 18) (.tmp 22) _ rfl w.heap.size 5 i0 (.int .u8 0) 1 1 Tryz.underlying139 hi0' hz0 hz1 hz2 rfl kD u3 L.length (byR L) rfl (rows_ext HH.out.1 hE) ⟨w3.heap.size,0,none⟩ 1 1 [.int .u8 ((c.toNat:Int))] rfl rfl kQ kE kC kA kM ?_;intro v6 w6 hown6 hgrow6 _ hat6;refine Hid.out ?_)
    refine Lh ?_
    have hX6:Ext w w6:=Below.grown (HH.out.2.trans hE) hgrow6 (Below.size (HH.out.2.trans hE)) fun j hj=>((rows_ext HH.out.1 hE).lt j hj).1
    have hN:=HX.out.2
    rw[HSP.out,if_neg kD]at hN
    go_wp2_with fail
    go_roundw
    case rel=>
     refine⟨i+1,by go_num,by omega,Lh ⟨?_,hX6⟩⟩
     rw[hN,byR_snoc,List.length_append]
     exact hown6
    case measure=>exact mZ
  ·
   have hlI:¬(i:Int)< (s.length:Int):=by omega
   have hie:s.take i=s:=List.take_of_length_le kA
   rw[hie]at hL
   have HXT:=Lh HH.out.2
   obtain⟨b0,c0,hu3,hb⟩:=byR_back HH.out.1
   subst hu3
   subst hL
   clear HH hie
   go_wp2_with fail
   go_ret
   first | exact⟨trivial,HXT.out⟩ | exact⟨rfl,HXT.out⟩
def endS (s:Step):Bytes:=if s.key= []then s.n else s.n++ [123]++Lib.join (s.key.map pescS) [44]++ [125]
def strR (L:List Bytes):List Value:=L.map fun c=> .string (bs c)
theorem infoString:(Tryz.prog.info? 9).map (fun i=>(i.zero,i.size,i.bytes))=some (some (.string ⟨#[]⟩),1,16):=by kernel_rfl
theorem own_slice' {W:World} {base z n:Nat} {e:TypeId} {v:Value} {us:List Value} (h:W.ownsRow base e z v n us):∃a c,v= .slice a n c:=by
 obtain⟨h1,⟨rfl,h0⟩ | ⟨g,cap,cur,rfl,hg,hh,h3⟩⟩:=h
 ·
  exact⟨_,_,by rw[h0]⟩
 ·
  exact⟨_,_,rfl⟩
theorem join_cons2 (a b:Bytes) (r:List Bytes):Lib.join (a::b::r) [44]=a++([44]++Lib.join (b::r) [44]):=rfl
theorem join_one (a:Bytes):Lib.join [a] [44]=a:=by
 show List.intercalate [44] [a]=a
 simp[List.intercalate]
theorem join_count:∀l:List Bytes,l.length≤(Lib.join l [44]).length+1
 | []=>Nat.zero_le _
 | [a]=>by simp
 | a::b::r=>by
  have ih:=join_count (b::r)
  rw[join_cons2,List.length_append,List.length_append]
  simp only[List.length_cons,List.length_nil]at ih⊢
  omega
theorem join_mem:∀(l:List Bytes) (x:Bytes),x∈l→x.length≤(Lib.join l [44]).length
 | [],_,h=>by cases h
 | [a],x,h=>by
  rw[List.mem_singleton.1 h,join_one];exact Nat.le_refl _
 | a::b::r,x,h=>by
  rw[join_cons2,List.length_append,List.length_append]
  rcases List.mem_cons.1 h with rfl | h
  ·
   omega
  ·
   have:=join_mem (b::r) x h
   omega
theorem join_take (l:List Bytes) (i:Nat):(Lib.join (l.take i) [44]).length≤(Lib.join l [44]).length:=by
 induction l generalizing i with
 | nil=>simp
 | cons a l ih=>
  cases i with
  | zero=>simp[Lib.join,List.intercalate]
  | succ i=>
   cases l with
   | nil=>simp
   | cons b r=>
    rw[List.take_succ_cons]
    cases i with
    | zero=>
     rw[List.take_zero,join_one,join_cons2,List.length_append];omega
    | succ i=>
     have:=ih (i+1)
     rw[List.take_succ_cons]at this⊢
     rw[join_cons2,join_cons2,List.length_append,List.length_append,List.length_append,List.length_append]
     omega
theorem endS_join (nm:Bytes) (key:List Bytes) (h:key≠ []):(endS ⟨nm,key⟩).length=nm.length+(Lib.join (key.map pescS) [44]).length+2:=by
 unfold endS
 rw[if_neg h]
 simp only[List.length_append,List.length_cons,List.length_nil]
 omega
theorem endS_name (s:Step):s.n.length≤(endS s).length:=by
 by_cases h:s.key= []
 ·
  unfold endS;rw[if_pos h];exact Nat.le_refl _
 ·
  have:=endS_join s.n s.key h
  rw[show(⟨s.n,s.key⟩:Step)=s from rfl]at this
  omega
theorem joinS_any (W:World) (base:Nat) (v:Value) (l:List Bytes) (hown:W.ownsRow base 9 1 v l.length (strR l)) (hj:(Lib.join l [44]).length≤1000000000000):
  Calls Tryz.prog 42 #[v,.string ⟨#[44]⟩] W fun e w'=>e= .returned (.string (bs (Lib.join l [44])))∧Ext W w':=by
 have hl:=join_count l
 have he:(l.map bs).map (fun b:ByteArray=>b.data.toList)=l:=by rw[List.map_map];exact List.map_id'' (fun x=>bs_list x) l
 obtain⟨h1,⟨rfl,h0⟩ | ⟨g,cap,cur,rfl,hg,hh,h3⟩⟩:=hown
 ·
  obtain rfl:l= []:=List.eq_nil_of_length_eq_zero h0
  exact(Tryz.strings_Join_none _ _ _ W).mono fun e w' h=>by
   obtain⟨h1,h2⟩:=h
   exact⟨h1,by first | exact h2 | (rw[h2];exact Ext.refl _)⟩
 ·
  have hw:W.ownsRow base 9 1 (.slice (some ⟨g,0,none⟩) l.length cap) l.length (strR l):=⟨h1,.inr ⟨g,cap,cur,rfl,hg,hh,h3⟩⟩
  have hcs:=hw.cells (g:=g) rfl
  have hs:=Tryz.strings_Join g 0 cap (l.map bs) ⟨#[44]⟩ W (fun j x hx=>by
   obtain⟨hjl,hjx⟩:=List.getElem?_eq_some_iff.1 hx
   rw[List.getElem_map]at hjx
   have:=hcs j (.string x) (by rw[←hjx];unfold strR;rw[List.length_map]at hjl;simp[hjl])
   rw[Nat.zero_add]
   rw[add_offs',Nat.zero_add]at this
   exact this) (blk_lt hh) (by rw[List.length_map];omega) (by rw[List.length_map];have:=h3.1;omega) (by rw[he];show(Lib.join l [44]).length≤_;omega)
  rw[List.length_map,he]at hs
  exact hs
theorem vstep_any (vb:Value) (nm:Bytes) (key:List Bytes) (p:Nat→Prop) (vk:Value) (w:World) (hend:(endS ⟨nm,key⟩).length≤1000000000000) (h:Rep w p vk (strsD key)):
  Calls Tryz.prog 86 #[vb,.string (bs nm),vk] w fun e w'=>e= .returned (.string (bs (endS ⟨nm,key⟩)))∧Ext w w':=by
 obtain⟨i0,hi0',hz0,hz1,hz2⟩:=info_parts infoString
 obtain⟨ka,kc,rfl,hk1,hk2⟩:=h.count z_str kA
 have hn:nm.length≤1000000000000:=Nat.le_trans (endS_name ⟨nm,key⟩) hend
 have HEND:=Lh hend
 have HK:=Lh h
 clear hend h
 go_enter Tryz.func86,Tryz.ntmps86
 by_cases hkn:key= []
 ·
  subst hkn
  have he:endS ⟨nm,[]⟩=nm:=rfl
  simp only[List.length_nil]at*
  go_wp2_with fail
  go_ret
  rw[he]
  exact⟨rfl,Ext.refl _⟩
 ·
  have hpos:0< key.length:=List.length_pos_iff.2 hkn
  have hpI:(0:Int)< (key.length:Int):=by omega
  have hpe:((key.length:Int)==0)=false:=by rw[beq_eq_false_iff_ne];omega
  have HKN:=Lh hkn
  have hjl:(Lib.join (key.map pescS) [44]).length≤1000000000000:=by have:=HEND.out;rw[endS_join nm key hkn]at this;omega
  have hk:key.length≤1000000000001:=by have:=join_count (key.map pescS);rw[List.length_map]at this;omega
  have HKM:Hid (∀k∈key,(pescS k).length≤1000000000000):=Lh fun k hk=>by
   have h1:=join_mem (key.map pescS) (pescS k) (List.mem_map.2 ⟨k,hk,rfl⟩)
   omega
  have HJL:=Lh hjl
  clear hkn hjl
  go_wp2_with fail
  go_loopw [7,16] (fun dv t wr=>∃i:Nat,t= .int .i64 i∧i≤key.length∧Hid (wr.ownsRow w.heap.size 9 1 dv i (strR ((key.take i).map pescS))∧Ext w wr)) (fun _ t _=>downV key.length t)
  case atStart=>exact⟨0,rfl,Nat.zero_le _,Lh ⟨World.ownsRow_nil _ _ _ _,Ext.refl _⟩⟩
  case round=>
   obtain⟨i,rfl,hi,HH⟩:=hrel
   have hi0:=nZ0 i
   have hws:w.heap.size≤wr.heap.size:=HH.out.2.size
   by_cases hlt:i< key.length
   ·
    have hlI:(i:Int)< (key.length:Int):=by omega
    obtain⟨g,o,rfl,lg,_,x0⟩:=str_at (HK.out.ext HH.out.2) i hlt
    have hxl:=HKM.out key[i] (List.getElem_mem hlt)
    have hT:(key.take (i+1)).map pescS=(key.take i).map pescS++ [pescS key[i]]:=by rw[List.take_succ_eq_append_getElem hlt,List.map_append];rfl
    have HT:=Lh hT
    obtain⟨x,hx⟩:∃x,key[i]=x:=⟨_,rfl⟩
    rw[hx]at x0 hxl HT
    have HC:=Lh fun W=>escape_any x hxl W
    clear hx hT
    go_wp2_with fail
    refine(HC.out _).mono ?_
    rintro e w3 ⟨rfl,hB⟩
    have HB:=Lh hB
    have hs3:w.heap.size≤w3.heap.size:=Nat.le_trans hws hB.size
    obtain⟨E,hE0⟩:∃E,pescS x=E:=⟨_,rfl⟩
    rw[hE0]at HT
    rw[hE0]
    have hE:Ext wr (w3.alloc (.cells #[.string (bs E)] 9)):=hB.trans ((Ext.refl _).alloc _)
    clear hB hE0 HC x0
    go_wp2_with (at_builtin;refine wpList_append_own_at _ rfl (.tmp 20) (.tmp 23) _ rfl w.heap.size 9 i0 (.string ⟨#[]⟩) 1 16 Tryz.underlying27 hi0' hz0 hz1 hz2 rfl kD u7 i (strR ((key.take i).map pescS)) rfl (rows_ext HH.out.1 hE) ⟨w3.heap.size,0,none⟩ 1 1 [.string (bs E)] rfl rfl kQ kE kC kA kM ?_;intro v6 w6 hown6 hgrow6 _ hat6;refine Hid.out ?_)
    refine Lh ?_
    have hX6:Ext w w6:=Below.grown (HH.out.2.trans hE) hgrow6 (Below.size (HH.out.2.trans hE)) fun j hj=>((rows_ext HH.out.1 hE).lt j hj).1
    go_wp2_with fail
    go_roundw
    case rel=>
     refine⟨i+1,by go_num,by omega,Lh ⟨?_,hX6⟩⟩
     rw[HT.out]
     unfold strR at hown6⊢
     rw[List.map_append]
     exact hown6
    case measure=>exact mZ
   ·
    have hlI:¬(i:Int)< (key.length:Int):=by omega
    obtain rfl:i=key.length:=by omega
    have hown:=HH.out.1
    rw[List.take_length]at hown
    have hln:((key.map pescS).length)=key.length:=List.length_map _
    rw[←hln]at hown
    have HJ:=Lh (joinS_any wr w.heap.size u7 (key.map pescS) hown HJL.out)
    obtain⟨a7,c7,rfl⟩:=own_slice' hown
    have HX:=Lh HH.out.2
    obtain⟨J,hJ⟩:∃J,Lib.join (key.map pescS) [44]=J:=⟨_,rfl⟩
    have hJl:J.length≤1000000000000:=by rw[←hJ];exact HJL.out
    have hres:bs nm++(⟨#[123]⟩:ByteArray)++bs J++(⟨#[125]⟩:ByteArray)=bs (endS ⟨nm,key⟩):=by
     unfold endS
     rw[if_neg HKN.out,hJ,←bs_append,←bs_append,←bs_append]
     rfl
    have HR:=Lh hres
    rw[hln,hJ]at HJ
    clear hown hln HH hJ hres
    have hg0:¬9223372036854775807< (bs nm).size+1:=by rw[bs_size];omega
    go_wp2_with fail
    refine HJ.out.mono ?_
    rintro e w3 ⟨rfl,hB⟩
    have HB:=Lh hB
    clear hB HJ
    have hg:¬9223372036854775807< (bs nm).size+1+(bs J).size:=by rw[bs_size,bs_size];omega
    have hg2:¬9223372036854775807< (bs nm).size+1+(bs J).size+1:=by rw[bs_size,bs_size];omega
    go_wp2_with fail
    go_ret
    exact⟨congrArg (fun s=>Ending.returned (.string s)) HR.out,HX.out.trans HB.out⟩
def NForm2 (l:List Rule) (n:Node):Prop:=∃a nm ks rs,MayOk l∧l=⟨[nm],ks⟩::rs∧a.kind=1∧a.name=nm∧(normN l a [nm] 0).2.1=0∧n=(normN l a [nm] 0).1∧cntN a≤1200∧cntN n≤1200∧fairN a=true
theorem NForm2.to {l:List Rule} {n:Node} (h:NForm2 l n):NForm l n:=by
 obtain⟨a,nm,ks,rs,h1,h2,h3,h4,h5,h6,h7,h8,h9⟩:=h
 exact⟨a,nm,ks,rs,h1,h2,h3,h4,h5,h6,by omega,by omega,h9⟩
theorem NForm2.cnt {l:List Rule} {n:Node} (h:NForm2 l n):cntN n≤1200:=by
 obtain⟨a,nm,ks,rs,h1,h2,h3,h4,h5,h6,h7,h8,h9⟩:=h
 exact h8
theorem rsmall2_any (p:Nat→Prop) (x:List Rule) (hb:RulesB x) (v:Value) (w:World) (h:Rep w p v (rulesD x)):
  Calls Tryz.prog 43 #[v] w fun e w'=>SomeB (fun b=>b=true→∀r∈x,r.keys.length≤3000) e∧Ext w w':=by
 obtain⟨a,c,rfl,hc1,hc2⟩:=h.count z_rule kA
 have HRB:=Lh hb
 clear hb
 go_enter Tryz.func43,Tryz.ntmps43
 go_wp2_with fail
 go_loopw [3,4,5,6] (fun n t _ _ wr=>∃(i:Nat) (s:Int),n= .int .i64 s∧t= .int .i64 i∧i≤x.length∧Ext w wr∧0≤s∧s< 3000∧Hid (∀r∈x.take i,r.keys.length≤3000)) (fun _ t _ _ _=>downV x.length t)
 case atStart=>exact⟨0,_,rfl,rfl,Nat.zero_le _,Ext.refl _,by decide,by decide,Lh kI⟩
 case round=>
  obtain⟨i,s,rfl,rfl,hi,hX,hs0,hs1,HT⟩:=hrel
  have hi0:=nZ0 i
  by_cases hlt:i< x.length
  ·
   have hlI:(i:Int)< (x.length:Int):=by omega
   obtain⟨g,o,vp,vk,rfl,hb,hp,e1,e2,hr1,hr2⟩:=rule_at (h.ext hX) i hlt
   have hrb:=HRB.out _ (List.getElem_mem hlt)
   obtain⟨r,hr⟩:∃r,x[i]=r:=⟨_,rfl⟩
   have HTT:Hid (r.keys.length≤3000→∀r∈x.take (i+1),r.keys.length≤3000):=Lh fun h=>take_all hlt HT.out (by rw[hr];exact h)
   rw[hr]at hrb
   have hpl:(r.path.length:Int)≤1048576:=by have:=hrb.1;omega
   have hkl:(r.keys.length:Int)≤1048576:=by have:=hrb.2.1;omega
   have hpl0:(0:Int)≤(r.path.length:Int):=by omega
   have hkl0:(0:Int)≤(r.keys.length:Int):=by omega
   have HB2:=Lh (And.intro hrb.2.2.1 hrb.2.2.2)
   clear hrb
   rw[hr]at hr1 hr2
   obtain⟨pa,pc,rfl,_,_⟩:=hr1.count z_str kA
   obtain⟨ka,kc,rfl,_,_⟩:=hr2.count z_str kA
   have HXX:=Lh hX
   clear hr
   obtain⟨w0,hw0⟩:∃w0,w0=wr:=⟨_,rfl⟩
   subst hw0
   go_wp2_with fail
   go_quiet (fail)
   obtain⟨w1,hw1⟩:∃w1,w0.drewN nq=w1:=⟨_,rfl⟩
   have hE1:Ext w0 w1:=by rw[←hw1];exact(Ext.refl _).drewN _
   rw[hw1]
   clear hw1
   have e1r:=hE1.keep hb e1
   have e2r:=hE1.keep hb e2
   go_wp2_with fail
   have lb1:g< w1.heap.size:=Nat.lt_of_lt_of_le hb hE1.size
   go_loopw [3,5] (fun n t wr=>∃(j:Nat) (s:Int),n= .int .i64 s∧t= .int .i64 j∧j≤r.path.length∧Ext w1 wr∧(r.keys.length:Int)≤s∧s≤10000000) (fun _ t _=>downV r.path.length t)
   case atStart=>exact⟨0,_,rfl,rfl,Nat.zero_le _,Ext.refl _,by omega,by omega⟩
   case round=>
    clear hs0 hs1
    obtain⟨j,s,rfl,rfl,hj,hX2,hs0,hs1⟩:=hrel
    have hs00:0≤s:=by omega
    have hj0:=nZ0 j
    have e1q:=hX2.keep lb1 e1r
    have e2q:=hX2.keep lb1 e2r
    by_cases hlj:j< r.path.length
    ·
     have hljI:(j:Int)< (r.path.length:Int):=by omega
     obtain⟨g2,o2,rfl,hb2,_,d1⟩:=str_at (hr1.ext (hE1.trans hX2)) j hlj
     have hlen:=HB2.out.1 _ (List.getElem_mem hlj)
     obtain⟨y,hy⟩:∃y,r.path[j]=y:=⟨_,rfl⟩
     rw[hy]at d1 hlen
     clear hy
     have hys:((bs y).size:Int)≤1048576:=by rw[bs_size];omega
     have hys0:(0:Int)≤((bs y).size:Int):=by omega
     by_cases hs:s< 3000
     ·
      go_wp2_with fail
      go_roundw
      case rel=>exact⟨j+1,_,rfl,by go_num,by omega,hX2,by omega,by omega⟩
      case measure=>exact mZ
     ·
      go_wp2_with fail
      obtain⟨w2,hw2⟩:∃w2,w2=wr:=⟨_,rfl⟩
      subst hw2
      have hE2:=hE1.trans hX2
      have lb2:g< w2.heap.size:=Nat.lt_of_lt_of_le lb1 hX2.size
      have f1:=hX2.keep lb1 e1r
      have f2:=hX2.keep lb1 e2r
      clear e1r e2r e1q e2q lb1 hX2 hE1 hj hj0
      have e1r:=f1
      have e2r:=f2
      have lb1:=lb2
      have hE1:=hE2
      clear f1 f2 lb2 hE2
      go_loopw [3,6] (fun n t wr=>∃(j:Nat) (s:Int),n= .int .i64 s∧t= .int .i64 j∧j≤r.keys.length∧Ext w2 wr∧(r.keys.length:Int)≤s∧s≤10000000) (fun _ t _=>downV r.keys.length t)
      case atStart=>exact⟨0,_,rfl,rfl,Nat.zero_le _,Ext.refl _,by omega,by omega⟩
      case round=>
       clear hs0 hs1
       obtain⟨j,s,rfl,rfl,hj,hX2,hs0,hs1⟩:=hrel
       have hs00:0≤s:=by omega
       have hj0:=nZ0 j
       have e1q:=hX2.keep lb1 e1r
       have e2q:=hX2.keep lb1 e2r
       by_cases hlj:j< r.keys.length
       ·
        have hljI:(j:Int)< (r.keys.length:Int):=by omega
        obtain⟨g2,o2,rfl,hb2,_,d1⟩:=str_at (hr2.ext (hE1.trans hX2)) j hlj
        have hlen:=HB2.out.2 _ (List.getElem_mem hlj)
        obtain⟨y,hy⟩:∃y,r.keys[j]=y:=⟨_,rfl⟩
        rw[hy]at d1 hlen
        clear hy
        have hys:((bs y).size:Int)≤1048576:=by rw[bs_size];omega
        have hys0:(0:Int)≤((bs y).size:Int):=by omega
        by_cases hs:s< 3000
        ·
         go_wp2_with fail
         go_roundw
         case rel=>exact⟨j+1,_,rfl,by go_num,by omega,hX2,by omega,by omega⟩
         case measure=>exact mZ
        ·
         have h3:3000≤s:=by omega
         clear hs
         go_wp2_with fail
         go_ret
         exact⟨⟨_,rfl,fun h=>by cases h⟩,(HXX.out.trans hE1).trans hX2⟩
       ·
        have hljI:¬(j:Int)< (r.keys.length:Int):=by omega
        by_cases h3:3000≤s
        ·
         go_wp2_with fail
         go_ret
         exact⟨⟨_,rfl,fun h=>by cases h⟩,(HXX.out.trans hE1).trans hX2⟩
        ·
         have h4:s< 3000:=by omega
         clear h3
         go_wp2_with fail
         all_goals exact⟨⟨i+1,_,rfl,by go_num,by omega,(HXX.out.trans hE1).trans hX2,by omega,by omega,Lh (HTT.out kA)⟩,by simp only[downV];omega⟩
    ·
     have hljI:¬(j:Int)< (r.path.length:Int):=by omega
     go_wp2_with fail
     obtain⟨w2,hw2⟩:∃w2,w2=wr:=⟨_,rfl⟩
     subst hw2
     have hE2:=hE1.trans hX2
     have lb2:g< w2.heap.size:=Nat.lt_of_lt_of_le lb1 hX2.size
     have f1:=hX2.keep lb1 e1r
     have f2:=hX2.keep lb1 e2r
     clear e1r e2r e1q e2q lb1 hX2 hE1 hj hj0
     have e1r:=f1
     have e2r:=f2
     have lb1:=lb2
     have hE1:=hE2
     clear f1 f2 lb2 hE2
     go_loopw [3,6] (fun n t wr=>∃(j:Nat) (s:Int),n= .int .i64 s∧t= .int .i64 j∧j≤r.keys.length∧Ext w2 wr∧(r.keys.length:Int)≤s∧s≤10000000) (fun _ t _=>downV r.keys.length t)
     case atStart=>exact⟨0,_,rfl,rfl,Nat.zero_le _,Ext.refl _,by omega,by omega⟩
     case round=>
      clear hs0 hs1
      obtain⟨j,s,rfl,rfl,hj,hX2,hs0,hs1⟩:=hrel
      have hs00:0≤s:=by omega
      have hj0:=nZ0 j
      have e1q:=hX2.keep lb1 e1r
      have e2q:=hX2.keep lb1 e2r
      by_cases hlj:j< r.keys.length
      ·
       have hljI:(j:Int)< (r.keys.length:Int):=by omega
       obtain⟨g2,o2,rfl,hb2,_,d1⟩:=str_at (hr2.ext (hE1.trans hX2)) j hlj
       have hlen:=HB2.out.2 _ (List.getElem_mem hlj)
       obtain⟨y,hy⟩:∃y,r.keys[j]=y:=⟨_,rfl⟩
       rw[hy]at d1 hlen
       clear hy
       have hys:((bs y).size:Int)≤1048576:=by rw[bs_size];omega
       have hys0:(0:Int)≤((bs y).size:Int):=by omega
       by_cases hs:s< 3000
       ·
        go_wp2_with fail
        go_roundw
        case rel=>exact⟨j+1,_,rfl,by go_num,by omega,hX2,by omega,by omega⟩
        case measure=>exact mZ
       ·
        have h3:3000≤s:=by omega
        clear hs
        go_wp2_with fail
        go_ret
        exact⟨⟨_,rfl,fun h=>by cases h⟩,(HXX.out.trans hE1).trans hX2⟩
      ·
       have hljI:¬(j:Int)< (r.keys.length:Int):=by omega
       by_cases h3:3000≤s
       ·
        go_wp2_with fail
        go_ret
        exact⟨⟨_,rfl,fun h=>by cases h⟩,(HXX.out.trans hE1).trans hX2⟩
       ·
        have h4:s< 3000:=by omega
        clear h3
        go_wp2_with fail
        all_goals exact⟨⟨i+1,_,rfl,by go_num,by omega,(HXX.out.trans hE1).trans hX2,by omega,by omega,Lh (HTT.out kA)⟩,by simp only[downV];omega⟩
  ·
   have hlI:¬(i:Int)< (x.length:Int):=by omega
   have HTX:=HT.out
   rw[List.take_of_length_le kA]at HTX
   have HTY:=Lh HTX
   clear HTX HT
   go_wp2_with fail
   go_ret
   exact⟨⟨_,rfl,fun _=>HTY.out⟩,hX⟩
theorem fits2_any (l:List Rule) (hb:RulesB l) (hll:l.length≤1048576) (ds:List Node) (p:Nat→Prop) (vl vd:Value) (w:World) (hcnt:∀d∈ds,cntN d≤1048576)
  (hvl:Rep w p vl (rulesD l)) (hvd:Rep w p vd (nodesD ds)):
  Calls Tryz.prog 23 #[vl,vd] w fun e w'=>SomeB (fun b=>b=true→ds.length≤12∧MayOk l∧(∀d∈ds,cntN d≤1200)∧∀r∈l,r.keys.length≤3000) e∧Ext w w':=by
 have HS:=Lh fun W (hE:Ext w W)=>rsmall2_any p l hb vl W (hvl.ext hE)
 have HM:=Lh fun W (hE:Ext w W)=>may_any l p vl W hb hll (hvl.ext hE)
 obtain⟨la,lc,rfl,hlc1,hlc2⟩:=hvl.count z_rule kA
 obtain⟨da,dc,rfl,hdc1,hdc2⟩:=hvd.count z_node kA
 have HCN:=Lh hcnt
 clear hcnt hb
 by_cases h12:12< ds.length
 ·
  have h12I:(12:Int)< (ds.length:Int):=by omega
  go_enter Tryz.func23,Tryz.ntmps23
  go_wp2_with fail
  go_ret
  exact⟨⟨_,rfl,fun h=>by cases h⟩,Ext.refl _⟩
 ·
  have h12I:¬(12:Int)< (ds.length:Int):=by omega
  go_enter Tryz.func23,Tryz.ntmps23
  go_wp2_with fail
  refine(HS.out _ (Ext.refl _)).mono ?_
  rintro e w1 ⟨⟨b1,rfl,hk1⟩,hB1⟩
  cases b1 with
  | false=>
   go_wp2_with fail
   go_ret
   exact⟨⟨_,rfl,fun h=>by cases h⟩,hB1⟩
  | true=>
   have HK1:=Lh (hk1 rfl)
   clear hk1
   go_wp2_with fail
   refine(HM.out _ hB1).mono ?_
   rintro e w2 ⟨⟨b2,rfl,hm⟩,hB2⟩
   have hX2:=hB1.trans hB2
   cases b2 with
   | false=>
    go_wp2_with fail
    go_ret
    exact⟨⟨_,rfl,fun h=>by cases h⟩,hX2⟩
   | true=>
    have HMO:=Lh (hm rfl)
    clear hm
    go_wp2_with fail
    go_loopw [5] (fun t wr=>∃i:Nat,t= .int .i64 i∧i≤ds.length∧Ext w wr∧Hid (∀d∈ds.take i,cntN d≤1200)) (fun t _=>downV ds.length t)
    case atStart=>exact⟨0,rfl,Nat.zero_le _,hX2,Lh kI⟩
    case round=>
     obtain⟨i,rfl,hi,hX,HT⟩:=hrel
     have hi0:=nZ0 i
     by_cases hlt:i< ds.length
     ·
      have hlI:(i:Int)< (ds.length:Int):=by omega
      obtain⟨g,o,za,zk,rfl,lg,_,d0,d1,d2,d3,d4,hza,hzk⟩:=node_at (hvd.ext hX) i hlt
      have hcm:=HCN.out _ (List.getElem_mem hlt)
      obtain⟨x,hx⟩:∃x,ds[i]=x:=⟨_,rfl⟩
      rw[hx]at d0 d1 d2 hza hzk hcm
      have HN:Hid (smallN 1200 x≤1200→∀d∈ds.take (i+1),cntN d≤1200):=Lh fun h=>take_all hlt HT.out (by rw[hx];have:=(smallN_le 1200 x).2 h;omega)
      clear hx
      have HC:=Lh fun W (hE:Ext wr W)=>bigsmall_any 1200 kA x p za zk W hcm (hza.ext hE) (hzk.ext hE)
      clear hza hzk
      go_wp2_with fail
      refine(HC.out _ (Ext.refl _)).mono ?_
      rintro e w3 ⟨rfl,hB3⟩
      obtain⟨b,hb⟩:∃b,decide (smallN 1200 x≤1200)=b:=⟨_,rfl⟩
      rw[hb]
      cases b with
      | false=>
       go_wp2_with fail
       go_ret
       exact⟨⟨_,rfl,fun h=>by cases h⟩,hX.trans hB3⟩
      | true=>
       have HN1:=Lh (HN.out (of_decide_eq_true hb))
       clear hb
       go_wp2_with fail
       go_roundw
       case rel=>exact⟨i+1,by go_num,by omega,hX.trans hB3,HN1⟩
       case measure=>exact mZ
     ·
      have hlI:¬(i:Int)< (ds.length:Int):=by omega
      have HTT:=HT.out
      rw[List.take_of_length_le kA]at HTT
      have HT2:=Lh HTT
      clear HTT HT
      go_wp2_with fail
      go_ret
      exact⟨⟨_,rfl,fun _=>⟨by omega,HMO.out,HT2.out,HK1.out⟩⟩,hX⟩
theorem normals2_any (l:List Rule) (hb:RulesB l) (hll:l.length≤1048576) (ds:List Node) (p:Nat→Prop) (vl vd:Value) (w:World) (hcnt:∀d∈ds,cntN d≤1200) (hdl:ds.length≤1048576)
  (hvl:Rep w p vl (rulesD l)) (hvd:Rep w p vd (nodesD ds)):
  Calls Tryz.prog 24 #[vl,vd] w fun e w'=>(∃L:List Node,Ret (fun b=>w.heap.size≤b) (nodesD L) e w'∧L.length≤ds.length∧∀n∈L,NForm2 l n)∧Ext w w':=by
 obtain⟨la,lc,rfl,hlc1,hlc2⟩:=hvl.count z_rule kA
 obtain⟨da,dc,rfl,hdc1,hdc2⟩:=hvd.count z_node kA
 obtain⟨i0,hi,hz0,hz1,hz2⟩:=info_parts infoNode
 have HB:=Lh hb
 have HCN:=Lh hcnt
 clear hb hcnt
 go_enter Tryz.func24,Tryz.ntmps24
 go_wp2_with fail
 go_loopw [5,6,7,8,9] (fun o t _ _ _ wr=>∃(i:Nat) (L:List Node) (dv:Value),t= .int .i64 i∧dv=o∧i≤ds.length∧L.length≤i∧Ext w wr∧Hid (Own wr (fun b=>w.heap.size≤b) w.heap.size 66 5 dv L.length (L.flatMap nodeC)∧∀n∈L,NForm2 l n)) (fun _ t _ _ _ _=>downV ds.length t)
 case atStart=>exact⟨0,[],_,rfl,rfl,Nat.zero_le _,Nat.le_refl _,Ext.refl _,Lh ⟨Own.nil _ _ _ _ _,by simp⟩⟩
 case round=>
  obtain⟨i,L,dv,rfl,rfl,hi2,hL,hX,HH⟩:=hrel
  have hi0:=nZ0 i
  have hwz:=hX.size
  by_cases hlt:i< ds.length
  ·
   have hlI:(i:Int)< (ds.length:Int):=by omega
   obtain⟨g,o,za,zk,rfl,lg,_,d0,d1,d2,d3,d4,hza,hzk⟩:=node_at (hvd.ext hX) i hlt
   have hcm:=HCN.out _ (List.getElem_mem hlt)
   obtain⟨x,hx⟩:∃x,ds[i]=x:=⟨_,rfl⟩
   rw[hx]at d0 d1 d2 hza hzk hcm
   clear hx
   have HN:=Lh fun W (hE:Ext wr W)=>bignormal_any l HB.out hll x p _ za zk W (Nat.le_trans hcm kD) (hvl.ext (hX.trans hE)) (hza.ext hE) (hzk.ext hE)
   obtain⟨zab,zac,rfl,_,_⟩:=hza.count z_attr kA
   obtain⟨zkb,zkc,rfl,_,_⟩:=hzk.count z_node kA
   clear hza hzk
   go_wp2_with fail
   refine(HN.out _ (Ext.refl _)).mono ?_
   rintro e w3 ⟨⟨r,⟨xa,xk,rfl,hxa,hxk⟩,hr⟩,hB3⟩
   obtain⟨n,c,at'⟩:=r
   simp only at hxa hxk⊢
   have hr1:=hr.1
   simp only at hr1
   have hnn:=cnt_name n
   obtain⟨xaa,xac,rfl,_,_⟩:=hxa.count z_attr kA
   obtain⟨xka,xkc,rfl,_,_⟩:=hxk.count z_node kA
   obtain⟨nA,hnA⟩:∃m,n.attrs.length=m:=⟨_,rfl⟩
   obtain⟨nK,hnK⟩:∃m,n.kids.length=m:=⟨_,rfl⟩
   rw[hnA]at hxa⊢
   rw[hnK]at hxk⊢
   clear hnA hnK HN d0 d1 d2 d3 d4
   have HR:=Lh hr
   have HRX:=Lh (And.intro hxa hxk)
   clear hr hxa hxk
   have hX3:=hX.trans hB3
   by_cases hc:c=0
   ·
    subst hc
    obtain⟨us,hrowr,hreps⟩:=HH.out.1.rows
    have hrow0:Hid (∀b,some b=dv.ownBlock→b< wr.heap.size):=Lh fun b hb=>(hrowr.lt b hb.symm).2
    have hrow:=(rows_ext hrowr hB3).alloc (.cells #[.int .i64 n.kind,.string (bs n.name),.string (bs n.text),.slice xaa nA xac,.slice xka nK xkc] 66)
    have hX4:Ext w (w3.alloc (.cells #[.int .i64 n.kind,.string (bs n.name),.string (bs n.text),.slice xaa nA xac,.slice xka nK xkc] 66)):=hX3.alloc _
    have hE34:Ext wr (w3.alloc (.cells #[.int .i64 n.kind,.string (bs n.name),.string (bs n.text),.slice xaa nA xac,.slice xka nK xkc] 66)):=hB3.alloc _
    have hsz3:=hB3.size
    have HHX:=Lh (And.intro hreps (And.intro hE34 hsz3))
    clear hreps hE34 hX3
    go_wp2_with (at_builtin;refine wpList_append_own_at _ rfl (.tmp 28) (.tmp 30) _ rfl w.heap.size 66 i0 (.agg #[.int .i64 0,.string ⟨#[]⟩,.string ⟨#[]⟩,.slice none 0 0,.slice none 0 0]) 5 88 Tryz.underlying23 hi hz0 hz1 hz2 rfl kD dv L.length us rfl (hrow.alloc _) ⟨w3.heap.size+1,0,none⟩ 1 1 [.int .i64 n.kind,.string (bs n.name),.string (bs n.text),.slice xaa nA xac,.slice xka nK xkc] rfl rfl (by have:=new_cells (w:=w3.alloc (.cells #[.int .i64 n.kind,.string (bs n.name),.string (bs n.text),.slice xaa nA xac,.slice xka nK xkc] 66)) (e:=66) [.int .i64 n.kind,.string (bs n.name),.string (bs n.text),.slice xaa nA xac,.slice xka nK xkc];simpa using this) kL kC kA kM ?_;intro v2 w7 hown7 hgrow7 _ hat7)
    have hX7:Ext w w7:=hX4.grown_own hrow hgrow7
    have hO7:Own w7 (fun b=>w.heap.size≤b) w.heap.size 66 5 v2 (L++ [n]).length ((L++ [n]).flatMap nodeC):=by
     rw[List.length_append,List.flatMap_append,List.flatMap_singleton,nodeC_eq]
     obtain⟨hreps,hE34,hsz3⟩:=HHX.out
     refine Own.push (us:=us) ?_ (Reps.cons (Rep.int _ _ _ _) (Reps.cons (Rep.string _ _ _ kU) (Reps.cons (Rep.string _ _ _ kU) (Reps.cons (e:=attrsD n.attrs) ?_ (Reps.cons (e:=nodesD n.kids) ?_ (Reps.nil _ _)))))) hown7 hgrow7 hat7
     ·
      exact(hreps.ext (hE34.alloc _)).ok fun b hb=>⟨hb.1,hb.2.1,by simp;omega⟩
     ·
      refine(HRX.out.1.ext (((Ext.refl _).alloc _).alloc _)).lt.ok fun b hb=>⟨by omega,fun e=> ?_,hb.2⟩
      have:=hrow0.out b e
      omega
     ·
      refine(HRX.out.2.ext (((Ext.refl _).alloc _).alloc _)).lt.ok fun b hb=>⟨by omega,fun e=> ?_,hb.2⟩
      have:=hrow0.out b e
      omega
    have hNF:Hid (∀m∈L++ [n],NForm2 l m):=Lh fun m hm=>by
     rcases List.mem_append.1 hm with h | h
     ·
      exact HH.out.2 m h
     ·
      have:m=n:=by simpa using h
      subst this
      obtain⟨h1,h2⟩:=HR.out
      obtain⟨h3,h4,hfn,nm,ks,rs,h5,h6,h7⟩:=h2 rfl
      exact⟨x,nm,ks,rs,h3,h5,h4,h6,by rw[←h7],by rw[←h7],hcm,by omega,hfn⟩
    clear hown7 hgrow7 hat7 hrow hrowr HHX
    go_wp2_with fail
    go_roundw
    case rel=>exact⟨i+1,L++ [n],v2,by go_num,rfl,by omega,by rw[List.length_append];simp;omega,hX7,Lh ⟨hO7,hNF.out⟩⟩
    case measure=>exact mZ
   ·
    have q1:(c==0)=false:=by rw[beq_eq_false_iff_ne];exact hc
    clear hc
    go_wp2_with fail
    go_roundw
    case rel=>exact⟨i+1,L,dv,by go_num,rfl,by omega,by omega,hX3.alloc _,Lh ⟨HH.out.1.ext (hB3.alloc _),HH.out.2⟩⟩
    case measure=>exact mZ
  ·
   have hlI:¬(i:Int)< (ds.length:Int):=by omega
   obtain⟨hown,hLc⟩:=HH.out
   clear HH
   go_wp2_with fail
   go_ret
   exact⟨⟨L,⟨dv,rfl,hown.rep.ok (fun b hb=>by rcases hb with h | h<;> exact h)⟩,by omega,hLc⟩,hX⟩
abbrev R4:=Int×Bytes×Bytes×Bytes
def itoaS (n:Nat):Bytes:=Lib.decDigits n
def attrRows (path:Bytes) (l:List Attr):List R4:=l.map fun a=>(5,a.n,a.v,path++([47,64]++a.n))
def idxPath (path:Bytes) (i:Nat):Bytes:=path++([47,35]++itoaS (i+1))
def stepPath (path:Bytes) (s:Step):Bytes:=path++([47]++endS s)
def keyedB (l:List Rule) (names:List Bytes):Bool:= !names.isEmpty && !frontS l names
mutual
def rowsD (l:List Rule):Node→Bytes→List Bytes→List R4
 | .mk k nm tx la ks,path,names=>(k,nm,tx,path)::attrRows path la++rowsL l ks path names (if keyedB l names=true then some (stepsS l names ks)else none) 0
def rowsL (l:List Rule):List Node→Bytes→List Bytes→Option (List Step)→Nat→List R4
 | [],_,_,_,_=> []
 | k::r,path,names,none,i=>rowsD l k (idxPath path i) []++rowsL l r path names none (i+1)
 | k::r,path,names,some ss,i=>rowsD l k (stepPath path (ss.headD ⟨[],[]⟩)) (names++ [k.name])++rowsL l r path names (some ss.tail) (i+1)
end
mutual
def rowsN:Node→Bytes→List R4
 | .mk k nm tx la ks,path=>if k=1 then(1,nm,[],path)::attrRows path la++rowsC ks path 0 else [(k,nm,tx,path)]
def rowsC:List Node→Bytes→Nat→List R4
 | [],_,_=> []
 | k::r,path,i=>rowsN k (idxPath path i)++rowsC r path (i+1)
end
mutual
def rowsA (v:Int):ANode→Bytes→List R4
 | .mk nm key vs ps ks,pp=>(1,nm,[],stepPath pp ⟨nm,key⟩)::attrRows (stepPath pp ⟨nm,key⟩) (partA v ps)++rowsC (partK v ps) (stepPath pp ⟨nm,key⟩) 0++rowsAL v ks (stepPath pp ⟨nm,key⟩)
def rowsAL (v:Int):List ANode→Bytes→List R4
 | [],_=> []
 | k::r,pp=>(if ahas k.vers v=true then rowsA v k pp else [])++rowsAL v r pp
end
theorem rowsD_eq (l:List Rule) (n:Node) (path:Bytes) (names:List Bytes):rowsD l n path names=(n.kind,n.name,n.text,path)::attrRows path n.attrs++rowsL l n.kids path names (if keyedB l names=true then some (stepsS l names n.kids)else none) 0:=by cases n;rw[rowsD];rfl
theorem rowsA_eq (v:Int) (n:ANode) (pp:Bytes):rowsA v n pp=(1,n.name,[],stepPath pp ⟨n.name,n.key⟩)::attrRows (stepPath pp ⟨n.name,n.key⟩) (partA v n.parts)++rowsC (partK v n.parts) (stepPath pp ⟨n.name,n.key⟩) 0++rowsAL v n.kids (stepPath pp ⟨n.name,n.key⟩):=by cases n;rw[rowsA];rfl
theorem fairN_eq (n:Node):fairN n=((if n.kind=1 then decide (n.text= []) && @decide (NamesP n.name n.attrs) (Classical.propDecidable _)else decide (n.attrs= []) && decide (n.kids= [])) && (decide (1≤n.kind∧n.kind≤4) && fairL n.kids)):=by cases n;rw[fairN];rfl
theorem keyed_nil (l:List Rule):keyedB l []=false:=rfl
mutual
theorem rowsN_fair (l:List Rule):∀(n:Node) (path:Bytes),fairN n=true→rowsN n path=rowsD l n path []
 | .mk k nm tx la ks,path,h=>by
  rw[fairN,Bool.and_eq_true]at h
  obtain⟨h1,h2⟩:=h
  replace h2:=((Bool.and_eq_true _ _).mp h2).2
  have ih:=rowsC_fair l ks path 0 h2
  rw[rowsN,rowsD,keyed_nil,if_neg (show¬(false=true) by decide)]
  by_cases hk:k=1
  ·
   rw[if_pos hk,Bool.and_eq_true]at h1
   rw[if_pos hk,of_decide_eq_true h1.1,ih,hk]
  ·
   rw[if_neg hk]at h1⊢
   rw[Bool.and_eq_true]at h1
   rw[of_decide_eq_true h1.1,of_decide_eq_true h1.2,rowsL]
   rfl
theorem rowsC_fair (l:List Rule):∀(ks:List Node) (path:Bytes) (i:Nat),fairL ks=true→rowsC ks path i=rowsL l ks path [] none i
 | [],path,i,_=>by rw[rowsC,rowsL]
 | k::r,path,i,h=>by
  rw[fairL,Bool.and_eq_true]at h
  rw[rowsC,rowsL,rowsN_fair l k _ h.1,rowsC_fair l r path (i+1) h.2]
end
theorem rowsL_none (l:List Rule) (names names':List Bytes):∀(ks:List Node) (path:Bytes) (i:Nat),rowsL l ks path names none i=rowsL l ks path names' none i
 | [],_,_=>by rw[rowsL,rowsL]
 | k::r,path,i=>by rw[rowsL,rowsL,rowsL_none l names names' r path (i+1)]
theorem rowsL_some (l:List Rule) (names:List Bytes):∀(ss:List Step) (ks:List Node) (path:Bytes) (i:Nat),ss.length=ks.length→
  rowsL l ks path names (some ss) i=(ss.zip ks).flatMap fun p=>rowsD l p.2 (stepPath path p.1) (names++ [p.2.name])
 | [],[],path,i,_=>by rw[rowsL];rfl
 | [],_::_,_,_,h=>by cases h
 | _::_,[],_,_,h=>by cases h
 | s::ss,k::ks,path,i,h=>by
  rw[rowsL,List.zip_cons_cons,List.flatMap_cons]
  show _++rowsL l ks path names (some ss) (i+1)=_
  rw[rowsL_some l names ss ks path (i+1) kJ];rfl
theorem look_pairs:∀(G ss:List Step) (ks:List Node),Rising G→Rising ss→ss.length=ks.length→(∀t∈ss,t∈G)→G.filterMap (fun t=>(lookK t ss ks).map fun k=>(t,k))=ss.zip ks
 | [],[],ks,_,_,hl,_=>by cases ks with | nil=>rfl | cons _ _=>cases hl
 | [],s::ss,ks,_,_,_,h=>by have:=h s List.mem_cons_self;cases this
 | g::G,[],ks,_,_,hl,_=>by
  cases ks with
  | cons _ _=>cases hl
  | nil=>rw[fmap_congr _ (fun _=>none) _ fun x _=>by rw[lookK_none_of x [] [] kI];rfl];simp
 | g::G,s::ss,[],_,_,hl,_=>by cases hl
 | g::G,s::ss,k::ks,hG,hS,hl,h=>by
  have hGt:=rising_tail hG
  by_cases e:g=s
  ·
   subst e
   rw[List.filterMap_cons,lookK,if_pos rfl,List.zip_cons_cons]
   simp only[Option.map_some]
   congr 1
   rw[fmap_congr _ (fun t=>(lookK t ss ks).map fun k=>(t,k)) G fun x hx=>by rw[lookK,if_neg (fun e=>by rw[e]at hx;exact rising_head hG hx)]]
   exact look_pairs G ss ks hGt (rising_tail hS) (by simpa using hl) fun t ht=>by
    rcases List.mem_cons.1 (h t (List.mem_cons_of_mem _ ht))with e | hm
    ·
     rw[e]at ht;exact absurd ht (rising_head hS)
    ·
     exact hm
  ·
   have hs:s∈G:=by
    rcases List.mem_cons.1 (h s List.mem_cons_self)with e2 | hm
    ·
     exact absurd e2.symm e
    ·
     exact hm
   rw[Rising,List.pairwise_cons]at hG
   have hgs:=hG.1 s hs
   have hn:g∉s::ss:=fun hm=>by
    rcases List.mem_cons.1 hm with e2 | hm
    ·
     exact e e2
    ·
     rw[Rising,List.pairwise_cons]at hS
     have:=aheadB_asymm _ _ (hS.1 g hm)
     rw[this]at hgs;cases hgs
   rw[List.filterMap_cons,lookK_none_of g _ _ hn]
   simp only[Option.map_none]
   exact look_pairs G (s::ss) (k::ks) hGt hS hl fun t ht=>by
    rcases List.mem_cons.1 (h t ht)with e2 | hm
    ·
     rw[e2]at ht;exact absurd ht hn
    ·
     exact hm
theorem rowsAL_map {α β:Type} (v:Int) (pp:Bytes) (f:α→ANode) (g:α→Option β) (R:β→List R4):∀(l:List α),(∀x∈l,(ahas (f x).vers v=true∧∃b,g x=some b∧rowsA v (f x) pp=R b)∨(ahas (f x).vers v=false∧g x=none))→rowsAL v (l.map f) pp=(l.filterMap g).flatMap R
 | [],_=>by simp[rowsAL]
 | a::l,h=>by
  have ih:=rowsAL_map v pp f g R l fun x hx=>h x (List.mem_cons_of_mem _ hx)
  rw[List.map_cons,rowsAL,List.filterMap_cons]
  rcases h a List.mem_cons_self with⟨h1,b,h2,h3⟩ | ⟨h1,h2⟩
  ·
   rw[if_pos h1,h2,ih,h3];rfl
  ·
   rw[if_neg (by rw[h1];decide),h2,ih];rfl
theorem insAt_perm {α:Type} (l:List α) (n:Nat) (x:α):(insAt l n x).Perm (x::l):=by
 unfold insAt
 exact List.perm_middle.trans (by rw[List.take_append_drop])
theorem sortA_perm:∀(l out:List Attr),(sortA out l).Perm (out++l)
 | [],out=>by rw[sortA,List.append_nil]
 | a::r,out=>by
  rw[sortA]
  exact(sortA_perm r _).trans (((insAt_perm out _ a).append_right r).trans List.perm_middle.symm)
theorem names_sort {nm:Bytes} {la:List Attr} (h:NamesP nm la):NamesP nm (sortA [] la):=by
 have hp:(sortA [] la).Perm la:=sortA_perm la []
 exact⟨h.1,fun a ha=>h.2.1 a (hp.mem_iff.1 ha),((hp.map (·.n)).nodup_iff).2 h.2.2⟩
theorem fairN_names {k:Int} {nm tx:Bytes} {la:List Attr} {ks:List Node} (h:fairN (.mk k nm tx la ks)=true) (hk:k=1):NamesP nm la:=by
 rw[fairN,Bool.and_eq_true,if_pos hk,Bool.and_eq_true]at h
 exact @of_decide_eq_true _ (Classical.propDecidable _) h.1.2
theorem fairL_mem:∀(ks:List Node) (k:Node),fairL ks=true→k∈ks→fairN k=true
 | [],k,_,h=>by cases h
 | a::ks,k,h0,h=>by
  rw[fairL,Bool.and_eq_true]at h0
  rcases List.mem_cons.1 h with rfl | h
  ·
   exact h0.1
  ·
   exact fairL_mem ks k h0.2 h
theorem fair_kids {n:Node} (h:fairN n=true):fairL n.kids=true:=by rw[fairN_eq,Bool.and_eq_true,Bool.and_eq_true]at h;exact h.2.2
theorem fair_kind {n:Node} (h:fairN n=true):1≤n.kind∧n.kind≤4:=by rw[fairN_eq,Bool.and_eq_true,Bool.and_eq_true]at h;exact of_decide_eq_true h.2.1
theorem fairL_all:∀ks:List Node,(∀k∈ks,fairN k=true)→fairL ks=true
 | [],_=>by rw[fairL]
 | k::r,h=>by rw[fairL,h k List.mem_cons_self,fairL_all r fun j hj=>h j (List.mem_cons_of_mem _ hj)];rfl
mutual
theorem cont_fair:∀n:Node,fairN n=true→fairN (contN n)=true
 | .mk k nm tx la ks,h=>by
  rw[fairN,Bool.and_eq_true,Bool.and_eq_true]at h
  rw[contN,fairN,contL_fair ks h.2.2,h.2.1,Bool.and_true,Bool.and_true]
  by_cases hk:k=1
  ·
   rw[if_pos hk];rw[if_pos hk,Bool.and_eq_true]at h
   rw[h.1.1,@decide_eq_true _ (Classical.propDecidable _) (names_sort (@of_decide_eq_true _ (Classical.propDecidable _) h.1.2))];rfl
  ·
   rw[if_neg hk];rw[if_neg hk,Bool.and_eq_true]at h
   rw[of_decide_eq_true h.1.1,of_decide_eq_true h.1.2,sortA,contL];rfl
theorem contL_fair:∀ks:List Node,fairL ks=true→fairL (contL ks)=true
 | [],_=>by rw[contL,fairL]
 | k::r,h=>by
  rw[fairL,Bool.and_eq_true]at h
  rw[contL,fairL,cont_fair k h.1,contL_fair r h.2];rfl
end
mutual
theorem norm_fair (l:List Rule):∀(a:Node) (path:List Bytes) (first:Int),fairN a=true→a.kind=1→(normN l a path first).2.1=0→fairN (normN l a path first).1=true
 | .mk k nm tx la ks,path,first,hf,hk1,h=>by
  have hk:=fair_kids hf
  have hN:=names_sort (fairN_names hf hk1)
  rw[normN]at h⊢
  by_cases hfr:frontS l path=true
  ·
   rw[if_pos hfr]at h⊢
   rw[fairN,if_pos rfl,contL_fair ks hk,@decide_eq_true _ (Classical.propDecidable _) hN];rfl
  ·
   rw[if_neg hfr]at h⊢
   exact normL_fair l ks nm (sortA [] la) path first [] [] (first+1) hk (by rw[fairL]) hN h
theorem normL_fair (l:List Rule):∀(ks:List Node) (nm:Bytes) (la:List Attr) (path:List Bytes) (first:Int) (steps:List Step) (out:List Node) (at':Int),fairL ks=true→fairL out=true→NamesP nm la→
  (normL l ks nm la path first steps out at').2.1=0→fairN (normL l ks nm la path first steps out at').1=true
 | [],nm,la,path,first,steps,out,at',hf,hi,hN,h=>by
  rw[normL,fairN,if_pos rfl,hi,@decide_eq_true _ (Classical.propDecidable _) hN];rfl
 | k::r,nm,la,path,first,steps,out,at',hf,hi,hN,h=>by
  rw[fairL,Bool.and_eq_true]at hf
  rw[normL]at h⊢
  by_cases c1:k.kind=2∧trimB k.text≠ []
  ·
   rw[if_pos c1]at h;simp at h
  ·
   rw[if_neg c1]at h⊢
   by_cases c2:k.kind≠1
   ·
    rw[if_pos c2]at h⊢;exact normL_fair l r nm la path first steps out at' hf.2 hi hN h
   ·
    rw[if_neg c2]at h⊢
    by_cases c3:findS (path++ [k.name]) l 0< 0
    ·
     rw[if_pos c3]at h;simp at h
    ·
     rw[if_neg c3]at h⊢
     by_cases c4:(normN l k (path++ [k.name]) at').2.1≠0
     ·
      rw[if_pos c4]at h;exact absurd h c4
     ·
      rw[if_neg c4]at h⊢
      have hk:=norm_fair l k (path++ [k.name]) at' hf.1 (by simpa using c2) (by simpa using c4)
      split at h
      ·
       simp at h
      ·
       split at h
       ·
        simp at h
       ·
        rename_i key hkey c5
        rw[if_neg c5]
        refine normL_fair l r nm la path first _ _ _ hf.2 (fairL_all _ fun m hm=> ?_) hN h
        rcases (mem_insAt _ _ _ _).1 hm with e | hm
        ·
         rw[e];exact hk
        ·
         exact fairL_mem _ _ hi hm
end
theorem nform_fair {l:List Rule} {n:Node} (h:NForm l n):fairN n=true:=by
 obtain⟨a,nm',ks',rs',hm,hl',hk,hn,hc,he,h1,h2,h3⟩:=h
 rw[he]
 exact norm_fair l a [nm'] 0 h3 hk hc
theorem rows_held (l:List Rule):∀(N:Nat) (path:List Bytes) (s:Step) (hs:List Held) (above:List Span),path≠ []→HeldOK l path s N hs→(∀h∈hs,fairN h.n=true)→∀h∈hs,∀pp,rowsA h.v (nodeP l N path s hs above) pp=rowsD l h.n (stepPath pp s) path
 | 0,path,s,hs,above,hpn,hh,hfr,h,hm,pp=>by
  have:=(hh.2 h hm).2.2.2.1
  have:=nsz_pos h.n
  omega
 | N+1,path,s,hs,above,hpn,hh,hfr,h,hm,pp=>by
  obtain⟨w1,w2,w3,w4,b1,b2⟩:=hh.2 h hm
  have hvs:∀h∈hs,1≤h.v∧h.v≤200:=fun h hm=>(hh.2 h hm).2.2.2.2
  obtain⟨q,q1,q2,q3⟩:=part_find (frontS l path) hs hh.1 hvs h hm
  have hkind:=((wfN_eq l h.n path).1 w1).1
  have htext:=((wtN_eq l h.n path).1 w2).1
  have hname:(nodeP l (N+1) path s hs above).name=s.n:=rfl
  have hkey:(nodeP l (N+1) path s hs above).key=s.key:=rfl
  have hparts:(nodeP l (N+1) path s hs above).parts=partsP (frontS l path) hs:=rfl
  have hkids:=nodeP_kids l N path s hs above
  have hA:partA h.v (partsP (frontS l path) hs)=h.n.attrs:=by unfold partA;rw[q1];exact q2
  have hK:partK h.v (partsP (frontS l path) hs)=kidsW (frontS l path) h.n:=by unfold partK;rw[q1];exact q3
  have hpe:path.isEmpty=false:=by cases path with | nil=>exact absurd rfl hpn | cons _ _=>rfl
  obtain⟨P,hP⟩:∃P,stepPath pp s=P:=⟨_,rfl⟩
  have hfin:rowsC (kidsW (frontS l path) h.n) P 0++rowsAL h.v (nodeP l (N+1) path s hs above).kids P=rowsL l h.n.kids P path (if keyedB l path=true then some (stepsS l path h.n.kids)else none) 0:=by
   rw[hkids]
   unfold keyedB
   rw[hpe]
   cases hf:frontS l path with
   | true=>
    rw[if_pos rfl,rowsAL,List.append_nil,if_neg kD,show kidsW true h.n=h.n.kids from rfl,rowsC_fair l _ _ _ (fair_kids (hfr h hm)),rowsL_none l [] path]
   | false=>
    rw[if_neg kD,show kidsW false h.n= [] from rfl,rowsC,List.nil_append,if_pos kD]
    obtain⟨c1,c2,c3⟩:=((wfN_eq l h.n path).1 w1).2 hf
    have hG:=gather_all l path hs
    have hris:∀h∈hs,Rising (stepsS l path h.n.kids):=fun h hm=>(((wfN_eq l h.n path).1 (hh.2 h hm).1).2 hf).2.1
    have hmem:=fun t=>selH_mem l path t hs hris
    rw[rowsL_some l path _ _ P 0 c1]
    rw[rowsAL_map h.v P _ (fun p=>(lookK p.1 (stepsS l path h.n.kids) h.n.kids).map fun k=>(p.1,k)) (fun p=>rowsD l p.2 (stepPath P p.1) (path++ [p.2.name]))]
    ·
     have e1:(gather l path hs ([],[])).1=((gather l path hs ([],[])).1.zip (gather l path hs ([],[])).2).map Prod.fst:=by rw[List.map_fst_zip (by rw[hG.len];omega)]
     have e2:((gather l path hs ([],[])).1.zip (gather l path hs ([],[])).2).filterMap (fun p=>(lookK p.1 (stepsS l path h.n.kids) h.n.kids).map fun k=>(p.1,k))=(gather l path hs ([],[])).1.filterMap (fun t=>(lookK t (stepsS l path h.n.kids) h.n.kids).map fun k=>(t,k)):=by
      conv=>rhs;rw[e1]
      rw[List.filterMap_map];rfl
     rw[e2,look_pairs _ _ _ hG.rise c2 c1 fun t ht=>(hG.iff t).1 fun e=> ?_]
     obtain⟨k,hk⟩:=lookK_mem t _ _ c1 ht
     have:=(hmem t ⟨h.v,k⟩).2 ⟨h,hm,hk,rfl⟩
     rw[e]at this;cases this
    ·
     intro p hpm
     have hp2:p.2=selH l path p.1 hs:=hG.eq p hpm
     have hne:selH l path p.1 hs≠ []:=(hG.iff p.1).2 (List.of_mem_zip hpm).1
     have hb:=hh.below hf p.1
     rw[nodeP_vers,hp2]
     have hown:∀v:Int,1≤v→v≤200→hasV (ownV (selH l path p.1 hs)) v=decide (v∈(selH l path p.1 hs).map (·.v)):=fun v h1 h2=>hasV_of _ v h1 h2
     have hane:ownV (selH l path p.1 hs)≠ []:=ownV_ne _ hne fun g hg=>(hb.2 g hg).2.2.2.2
     have hah:ahas (versV (selH l path p.1 hs) (ownV hs)) h.v=decide (h.v∈(selH l path p.1 hs).map (·.v)):=by
      unfold versV
      by_cases he:spansS (ownV (selH l path p.1 hs)) (ownV hs)=true
      ·
       rw[if_pos he]
       have e1:=(spansS_iff _ _).1 he
       have h3:=hown h.v b1 b2
       rw[e1]at h3
       have h4:hasV (ownV hs) h.v=decide (h.v∈hs.map (·.v)):=hasV_of _ h.v b1 b2
       rw[h4,decide_eq_true (List.mem_map.2 ⟨h,hm,rfl⟩)]at h3
       rw[←h3];rfl
      ·
       rw[if_neg he]
       unfold ahas
       rw[if_neg fun e=>hane (List.eq_nil_of_length_eq_zero e)]
       exact hown h.v b1 b2
     rw[hah]
     cases hk:lookK p.1 (stepsS l path h.n.kids) h.n.kids with
     | some k=>
      left
      have hg:=(hmem p.1 ⟨h.v,k⟩).2 ⟨h,hm,hk,rfl⟩
      obtain⟨hk1,hk2,_⟩:=(walkF_step l h.n path p.1 [] 0 w1).2 _ hk
      refine⟨decide_eq_true (List.mem_map.2 ⟨_,hg,rfl⟩),(p.1,k),rfl,?_⟩
      have hfr2:∀g∈selH l path p.1 hs,fairN g.n=true:=fun g hg'=>by
       obtain⟨h',hm',hk',_⟩:=(hmem p.1 g).1 hg'
       exact fairL_mem _ _ (fair_kids (hfr h' hm')) ((walkF_step l h'.n path p.1 [] 0 (hh.2 h' hm').1).2 _ hk').1
      have:=rows_held l N (path++ [p.1.n]) p.1 _ (ownV hs) kI hb hfr2 _ hg P
      rw[this,hk2]
     | none=>
      right
      refine⟨decide_eq_false fun hv=> ?_,rfl⟩
      obtain⟨g,hg,e⟩:=List.mem_map.1 hv
      obtain⟨h',hm',hk',hv'⟩:=(hmem p.1 g).1 hg
      have:=held_uniq hs hh.1 h' hm' h hm (by rw[←hv'];exact e)
      subst this
      rw[hk]at hk';cases hk'
  rw[rowsA_eq,rowsD_eq,hname,hkey,hparts,hA,hK,show(⟨s.n,s.key⟩:Step)=s from rfl,hP,List.append_assoc,hfin,hkind,htext,w3]
end Go.Proofs.YtngmgjodcnknoaaGreatDoor
