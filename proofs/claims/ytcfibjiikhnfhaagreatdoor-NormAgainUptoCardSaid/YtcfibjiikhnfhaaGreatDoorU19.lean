/-
 The lexer's references. Helper lemmas;no statement of the seat is proved here.
-/
import Derived.Test.YtcfibjiikhnfhaaGreatDoorU18
import Derived.Test.YtcfibjiikhnfhaaGreatDoorZhelf3
namespace Go.Proofs.YtcfibjiikhnfhaaGreatDoor
open Go.RowKit
set_option maxHeartbeats 32000000
set_option maxRecDepth 100000
set_option linter.unusedVariables false
set_option linter.unusedSimpArgs false
theorem indexByte_at (a b:Bytes) (c:UInt8) (h:∀x∈a,x≠c):Lib.indexByte (a++c::b) c=a.length:=by
 induction a with
 | nil=>simp[Lib.indexByte]
 | cons x r ih=>
  have hx:(x==c)=false:=by rw[beq_eq_false_iff_ne];exact h x (List.mem_cons_self ..)
  have ih:=ih fun y hy=>h y (List.mem_cons_of_mem _ hy)
  rw[List.cons_append,Lib.indexByte,hx,if_neg (by simp),ih,if_neg (by rw[beq_iff_eq];omega)]
  simp
def digS (nm:Bytes):Option Bytes:=if nm.getD 0 0=35 then some (nm.drop 1)else none
theorem named_any (nm:Bytes) (c:UInt8) (h:(nm,c)∈refT) (w:World):Calls Tryz.prog 223 #[.string (bs nm)] w fun e w'=>e= .returned (.int .i32 (if(digS nm).isSome=true then -1 else(c.toNat:Int)))∧w'=w:=by
 have e0:((bs nm).toList==([97,109,112]:List UInt8))=decide (nm= [97,109,112]):=by rw[bs_toList,Bool.eq_iff_iff];simp
 have e1:((bs nm).toList==([108,116]:List UInt8))=decide (nm= [108,116]):=by rw[bs_toList,Bool.eq_iff_iff];simp
 have e2:((bs nm).toList==([103,116]:List UInt8))=decide (nm= [103,116]):=by rw[bs_toList,Bool.eq_iff_iff];simp
 have e3:((bs nm).toList==([113,117,111,116]:List UInt8))=decide (nm= [113,117,111,116]):=by rw[bs_toList,Bool.eq_iff_iff];simp
 have e4:((bs nm).toList==([97,112,111,115]:List UInt8))=decide (nm= [97,112,111,115]):=by rw[bs_toList,Bool.eq_iff_iff];simp
 obtain⟨R,hR⟩:∃R,(if(digS nm).isSome=true then(-1:Int)else(c.toNat:Int))=R:=⟨_,rfl⟩
 rw[hR]
 have HR:=Lh hR
 clear hR
 have h':=h
 unfold refT at h'
 simp only[List.mem_cons,Prod.mk.injEq,List.not_mem_nil,or_false]at h'
 rcases h' with⟨k,rfl⟩ | ⟨k,rfl⟩ | ⟨k,rfl⟩ | ⟨k,rfl⟩ | ⟨k,rfl⟩ | ⟨k,rfl⟩ | ⟨k,rfl⟩
 all_goals
  have HR2:=Lh (k ▸ HR.out)
  rw[decide_eq_false (by rw[k];decide)]at e4
  first | rw[decide_eq_true k]at e0 | rw[decide_eq_false (by rw[k];decide)]at e0
  first | rw[decide_eq_true k]at e1 | rw[decide_eq_false (by rw[k];decide)]at e1
  first | rw[decide_eq_true k]at e2 | rw[decide_eq_false (by rw[k];decide)]at e2
  first | rw[decide_eq_true k]at e3 | rw[decide_eq_false (by rw[k];decide)]at e3
  clear k h HR
  go_enter Tryz.func223,Tryz.ntmps223
  go_wp2_with fail
  go_ret
  exact⟨by rw[←HR2.out];rfl,rfl⟩
def numG:Int→Bytes→Int
 | v,[]=>v
 | v,c::r=>numG (v*10+((c.toNat:Int) - 48)) r
def dg4 (c:UInt8):Prop:=c=48∨c=49∨c=51∨c=57
theorem number_any (d:Bytes) (R:Int) (hd:∀c∈d,dg4 c) (h0:d≠ []) (hl:d.length≤2) (hR:numG 0 d=R) (hc:charZ R=true) (hR0:0≤R) (w:World):
  Calls Tryz.prog 224 #[.string (bs d),.int .i32 10] w fun e w'=>e= .returned (.int .i32 R)∧Ext w w':=by
 have HG:Hid (numG 0 (d.drop 0)=R):=Lh (by simpa using hR)
 have HD:=Lh (And.intro hd (And.intro hc hR0))
 have hne:((bs d).toList==([]:List UInt8))=false:=by
  rw[bs_toList,beq_eq_false_iff_ne];exact h0
 clear hd hR hc hR0 h0
 go_enter Tryz.func224,Tryz.ntmps224
 go_wp2_with fail
 have hit0:(w.iter (bs d) 0).heap[w.heap.size]? =some (.stringIter (bs d) 0):=World.iter_heap _ _ _
 have hE0:Ext w (w.iter (bs d) 0):=(Ext.refl w).alloc _
 obtain⟨k,hk⟩:∃k,w.heap.size=k:=⟨_,rfl⟩
 rw[hk]at hit0⊢
 have HK:=Lh hk
 go_loopw [5,7,8] (fun u5 _ _ wr=>∃(pos:Nat) (v:Int),u5= .int .i32 v∧pos≤d.length∧0≤v∧(pos=0→v=0)∧(pos=1→v≤9)∧v≤1000∧wr.heap[k]? =some (.stringIter (bs d) pos)∧Hid (Ext w wr)∧Hid (numG v (d.drop pos)=R)) (fun _ _ _ wr=>d.length - wr.iterPos k)
 case atStart=>exact⟨0,0,rfl,Nat.zero_le _,by decide,fun _=>rfl,by simp,by decide,hit0,Lh hE0,HG⟩
 case round=>
  clear HG hit0 hE0
  obtain⟨pos,v,rfl,hp,hv0,hva,hvb,hvc,hit,HX,HI⟩:=hrel
  have hip:wr.iterPos k=pos:=by unfold World.iterPos;rw[hit]
  by_cases hlt:pos< d.length
  ·
   obtain⟨c,hcd⟩:∃c,d[pos]'hlt=c:=⟨_,rfl⟩
   have hds:d.drop pos=c::d.drop (pos+1):=by rw[←hcd];exact List.drop_eq_getElem_cons hlt
   have hc4:=HD.out.1 c (by rw[←hcd];exact List.getElem_mem hlt)
   have hg:=HI.out
   rw[hds,numG]at hg
   have hlc:c.toNat< 128:=by rcases hc4 with h | h | h | h<;> rw[h]<;> decide
   have hdd:Utf8.decode (bs d) pos=Lib.decodeL (d.drop pos):=(Lib.decodeL_drop (bs d) pos).symm
   have hlb:pos< (bs d).size:=by rw[bs_size];exact hlt
   have hnx:∀ty,(Instr.next (.pointer (some ⟨k,0,none⟩)) true ty).run Tryz.prog wr=_:=fun ty=>Lib.run_next_any_at wr k (bs d) pos ty hit hlb
   rw[hdd,hds,Lib.decodeL_ascii _ _ hlc]at hnx
   have hit2:=Lib.iterAt_heap wr k (bs d) pos (pos+1) hit
   have hX2:Ext w (wr.iterAt k (bs d) (pos+1)):=Lib.below_iterAt HX.out (by have:=HK.out;omega) (bs d) (pos+1)
   obtain⟨W,hW⟩:∃W,wr.iterAt k (bs d) (pos+1)=W:=⟨_,rfl⟩
   rw[hW]at hnx hit2 hX2
   have HVZ:=Lh hva
   have hip2:W.iterPos k=pos+1:=by unfold World.iterPos;rw[hit2]
   have hv9:v≤9:=by
    rcases Nat.eq_zero_or_pos pos with h | h
    ·
     rw[hva h];decide
    ·
     exact hvb (by omega)
   have HG:=Lh hg
   have HX2:=Lh hX2
   clear hg hds hdd hW hX2 HI HX hva hvb hcd
   rcases hc4 with hx | hx | hx | hx
   all_goals
    rw[hx]at hnx HG
    clear hx hlc
    go_wp2_with fail
    refine(Tryz.strings_IndexByte (bs [48,49,50,51,52,53,54,55,56,57,97,98,99,100,101,102]) _ W).mono ?_
    rintro e w4 ⟨rfl,rfl⟩
    have hwa:IntKind.i32.wrap (v*10)=v*10:=by rw[IntKind.wrap_i32];omega
    have hw0:IntKind.i32.wrap (v*10+1)=v*10+1:=by rw[IntKind.wrap_i32];omega
    have hw3:IntKind.i32.wrap (v*10+3)=v*10+3:=by rw[IntKind.wrap_i32];omega
    have hw9:IntKind.i32.wrap (v*10+9)=v*10+9:=by rw[IntKind.wrap_i32];omega
    have hma:min (v*10) 1114112=v*10:=by omega
    have hm0:min (v*10+1) 1114112=v*10+1:=by omega
    have hm3:min (v*10+3) 1114112=v*10+3:=by omega
    have hm9:min (v*10+9) 1114112=v*10+9:=by omega
    go_wp2_with fail
    go_roundw
    case rel=>exact⟨pos+1,_,rfl,by omega,by omega,fun h=>absurd h (by omega),fun h=>by have:=hv9;have:=HVZ.out (by omega);omega,by omega,hit2,HX2,Lh (by have h:=HG.out;simpa using h)⟩
    case measure=>rw[hip,hip2];omega
  ·
   have hlI:¬pos< (bs d).size:=by rw[bs_size];exact hlt
   have hnx:∀ty,(Instr.next (.pointer (some ⟨k,0,none⟩)) true ty).run Tryz.prog wr=_:=fun ty=>Lib.run_next_end_at wr k (bs d) pos ty hit hlI
   have hv:v=R:=by have h:=HI.out;rw[List.drop_of_length_le (by omega)]at h;exact h
   subst hv
   have hne2:(bs d).toList.isEmpty=false:=by
    cases h:(bs d).toList with
    | nil=>rw[h]at hne;cases hne
    | cons a b=>rfl
   have HC:=Lh (Char_any v wr)
   rw[HD.out.2.1]at HC
   clear HI
   go_wp2_with fail
   refine HC.out.mono ?_
   rintro e w4 ⟨rfl,rfl⟩
   go_wp2_with fail
   go_ret
   exact⟨rfl,HX.out⟩
theorem encode_any (c:UInt8) (hc:c.toNat< 128) (w:World):Calls Tryz.prog 225 #[.int .i32 (c.toNat:Int)] w fun e w'=>∃v,e= .returned v∧w'.ownsRow w.heap.size 5 1 v 1 (rowB [c])∧Ext w w':=by
 obtain⟨z,hz⟩:∃z:Int,(c.toNat:Int)=z:=⟨_,rfl⟩
 have hr:Lib.runeCells z=rowB [c]:=by unfold Lib.runeCells;rw[Lib.encodeRuneZ_one (by omega) (by omega),←hz];rfl
 rw[hz]
 have hz0:0≤z:=by omega
 have hz1:z≤127:=by omega
 have HV:=Lh (Tryz.utf8_ValidRune z w)
 have hvr:Lib.validRune z=true:=by unfold Lib.validRune;exact decide_eq_true (by omega)
 rw[hvr]at HV
 have HA:=Lh (Tryz.utf8_AppendRune_plain w.heap.size (.slice none 0 0) 0 [] z (by omega) (by omega) w (World.ownsRow_nil _ _ _ _) (by omega) (Nat.le_refl _))
 rw[hr]at HA
 clear hr hvr hz
 go_enter Tryz.func225,Tryz.ntmps225
 go_wp2_with fail
 refine HV.out.mono ?_
 rintro e w1 ⟨rfl,rfl⟩
 go_wp2_with fail
 refine HA.out.mono ?_
 rintro e w2 ⟨v,rfl,hown,o,hg⟩
 have hE:Ext w1 w2:=Below.grown ((Ext.refl w1).alloc o) hg (Below.size ((Ext.refl w1).alloc o)) fun j hj=>by cases hj
 go_wp2_with fail
 go_ret
 exact⟨_,rfl,by have h:=hown;rw[List.nil_append,Nat.zero_add]at h;exact h,hE⟩
theorem ref_cases {nm:Bytes} {c:UInt8} (h:(nm,c)∈refT):(∀x∈38::nm,x≠59)∧nm.length≤4∧0< nm.length∧c.toNat< 128∧Lib.hasPrefix nm [35,120]=false∧
  ((digS nm=none∧Lib.hasPrefix nm [35]=false)∨∃d,digS nm=some d∧Lib.hasPrefix nm [35]=true∧Lib.trimPrefix nm [35]=d∧(∀x∈d,dg4 x)∧d≠ []∧d.length≤2∧numG 0 d=(c.toNat:Int)∧charZ (c.toNat:Int)=true):=by
 unfold refT at h
 simp only[List.mem_cons,Prod.mk.injEq,List.not_mem_nil,or_false]at h
 rcases h with⟨rfl,rfl⟩ | ⟨rfl,rfl⟩ | ⟨rfl,rfl⟩ | ⟨rfl,rfl⟩ | ⟨rfl,rfl⟩ | ⟨rfl,rfl⟩ | ⟨rfl,rfl⟩
 ·
  exact⟨by decide,by decide,by decide,by decide,rfl,.inl ⟨rfl,rfl⟩⟩
 ·
  exact⟨by decide,by decide,by decide,by decide,rfl,.inl ⟨rfl,rfl⟩⟩
 ·
  exact⟨by decide,by decide,by decide,by decide,rfl,.inl ⟨rfl,rfl⟩⟩
 ·
  exact⟨by decide,by decide,by decide,by decide,rfl,.inl ⟨rfl,rfl⟩⟩
 ·
  exact⟨by decide,by decide,by decide,by decide,rfl,.inr ⟨[49,51],rfl,rfl,rfl,by unfold dg4;decide,by decide,by decide,rfl,rfl⟩⟩
 ·
  exact⟨by decide,by decide,by decide,by decide,rfl,.inr ⟨[57],rfl,rfl,rfl,by unfold dg4;decide,by decide,by decide,rfl,rfl⟩⟩
 ·
  exact⟨by decide,by decide,by decide,by decide,rfl,.inr ⟨[49,48],rfl,rfl,rfl,by unfold dg4;decide,by decide,by decide,rfl,rfl⟩⟩
section
variable {g:Nat} {W W':World} {s:Bytes} {i:Nat} {bv ov:Value}
theorem ib_any {p:Nat→Prop} {bb off bc:Nat} (hrow:Rep W p (.slice (some ⟨bb,off,none⟩) s.length bc) (numsD .u8 (byI s))) (hcap:s.length≤bc) (hi:i< s.length) (c:UInt8) (w:World) (hE:Ext W w):
  Calls Tryz.prog 220 #[.slice (some ⟨bb,off+i,none⟩) (s.length - i) (bc - i),.int .u8 (c.toNat:Int)] w fun e w'=>e= .returned (.int .i64 (Lib.indexByte (s.drop i) c))∧w'=w:=by
 refine(Tryz.bytes_IndexByte_at ⟨bb,off+i,none⟩ (s.length - i) (bc - i) (byI (s.drop i)) (c.toNat:Int) w (by rw[byI_len,List.length_drop]) (fun k hk=> ?_)).mono ?_
 ·
  obtain⟨b,o,e,hb,hc⟩:=by_at hrow (i+k) (by omega)
  injection e with e
  injection e with e1 e2
  subst e1 e2
  have hkd:k< (s.drop i).length:=by rw[List.length_drop];exact hk
  rw[add_offs',byI_getD _ k hkd,show off+i+k=off+(i+k) by omega,hE.keep hb hc,List.getElem_drop]
 ·
  rintro e w' ⟨rfl,rfl⟩
  rw[bytesOf_byI]
  refine⟨?_,rfl⟩
  congr 3
  simp
theorem reference_any (h:SB g W s i bv ov) (nm:Bytes) (c:UInt8) (r:Bytes) (hm:(nm,c)∈refT) (hd:s.drop i=38::(nm++59::r)):Calls Tryz.prog 194 #[.pointer (some ⟨g,0,none⟩)] W fun e w'=>e= .returned (.string (bs [c]))∧SB g w' s (i+nm.length+2) bv ov∧Exc g W w':=by
 obtain⟨r1,r2,r3,r4,r5,r6⟩:=ref_cases hm
 have hi:=drop_lt hd
 have hlen:=congrArg List.length hd
 simp only[List.length_drop,List.length_cons,List.length_append]at hlen
 obtain⟨bb,off,bc,rfl,hcap,hbc⟩:=h.slice (by omega)
 have hl:=h.hl
 have hlt:=h.lt
 have c0:=h.c0
 have c1:=h.c1
 obtain⟨n,hn⟩:∃n,nm.length=n:=⟨_,rfl⟩
 have hix:Lib.indexByte (s.drop i) 59=(n:Int)+1:=by rw[hd,←List.cons_append,indexByte_at (38::nm) r 59 r1,List.length_cons,hn];rfl
 have hnI:¬(n:Int)+1< 0:=by omega
 have hw2:IntKind.i64.wrap ((i:Int)+((n:Int)+1))=(i:Int)+((n:Int)+1):=by rw[IntKind.wrap_i64];omega
 have hIB:=Lh (ib_any h.row hcap hi 59 W (Ext.refl W))
 rw[hix]at hIB
 have hcv:=h.conv hcap hbc (i+1) (i+(n+1)) (by omega) (by omega) (by omega) (Ext.refl W)
 have htx:(s.drop (i+1)).take (i+(n+1) - (i+1))=nm:=by
  rw[show i+(n+1) - (i+1)=n by omega,←List.drop_drop,hd,←hn]
  show(nm++59::r).take nm.length=nm
  exact List.take_left
 rw[htx]at hcv
 have HH:=Lh (And.intro h hcv)
 have HNM:=Lh (named_any nm c hm W)
 have HP1:=Lh (Tryz.strings_CutPrefix (bs nm) (bs [35,120]) W)
 have HP2:=Lh (Tryz.strings_CutPrefix (bs nm) (bs [35]) W)
 have eb:∀l:Bytes,(bs l).data.toList=l:=fun l=>by simp[bs]
 rw[eb,eb,r5]at HP1
 rw[eb,eb]at HP2
 have HR4:=Lh r4
 have hn0:(0:Int)≤(n:Int):=by omega
 have hnl:(n:Int)≤4:=by omega
 have hin:i+n+2≤s.length:=by omega
 have hw1:IntKind.i64.wrap ((i:Int)+1)=(i:Int)+1:=by rw[IntKind.wrap_i64];omega
 have hil:(i:Int)≤65536:=by omega
 have hw3:IntKind.i64.wrap ((i:Int)+((n:Int)+1)+1)=(i:Int)+((n:Int)+1)+1:=by rw[IntKind.wrap_i64];omega
 obtain⟨z,hz⟩:∃z:Int,(c.toNat:Int)=z:=⟨_,rfl⟩
 have hz0:0≤z:=by omega
 have HN:=Lh hn
 clear h hm hd r1 r2 r3 r4 r5 hix hcv htx hlen eb hn
 rcases r6 with⟨hdn,hpf⟩ | ⟨d,hds,hpf,htp,hd4,hdne,hdl,hdv,hdc⟩
 ·
  rw[hdn,hz]at HNM
  rw[hpf]at HP2
  replace HNM:Hid (Calls Tryz.prog 223 #[.string (bs nm)] W fun e w'=>e= .returned (.int .i32 z)∧w'=W):=HNM
  go_enter Tryz.func194,Tryz.ntmps194
  go_wp2_with fail
  refine hIB.out.mono ?_
  rintro e w1 ⟨rfl,rfl⟩
  have hcv:=HH.out.2
  go_wp2_with fail
  refine HNM.out.mono ?_
  rintro e w2 ⟨rfl,rfl⟩
  go_wp2_with fail
  refine HP1.out.mono ?_
  rintro e w3 ⟨rfl,rfl⟩
  go_wp2_with fail
  refine HP2.out.mono ?_
  rintro e w4 ⟨rfl,rfl⟩
  have HX4:=Lh (Ext.refl w4)
  have HB1:Hid (SB g (w4.setCell ⟨g,1,none⟩ (.int .i64 ((i:Int)+((n:Int)+1)+1))) s (i+n+2) (.slice (some ⟨bb,off,none⟩) s.length bc) ov∧Exc g w4 (w4.setCell ⟨g,1,none⟩ (.int .i64 ((i:Int)+((n:Int)+1)+1)))):=Lh (by
   have h:=(HH.out.1.ext HX4.out).put (i+n+2) hin
   rw[show(((i+n+2:Nat)):Int)=(i:Int)+((n:Int)+1)+1 by omega]at h
   exact h)
  have c1':=(HH.out.1.ext HX4.out).c1
  have f1':=(HH.out.1.ext HX4.out).f 1
  have HE4:=Lh (encode_any c HR4.out)
  have hcz:¬(z:Int)< 0:=by omega
  rw[hz]at HE4
  go_wp2_with fail
  obtain⟨w5,hw5⟩:∃X,w4.setCell ⟨g,1,none⟩ (.int .i64 ((i:Int)+((n:Int)+1)+1))=X:=⟨_,rfl⟩
  rw[hw5]at HB1⊢
  clear c0 c1 c1' f1' hw5
  refine(HE4.out w5).mono ?_
  rintro e w6 ⟨ev,rfl,hown,hE6⟩
  have hcv6:=own_conv (L:= [c]) hown
  have HZ:=Lh (And.intro (HB1.out.1.ext hE6) (((Exc.of g HX4.out).trans HB1.out.2).ext hE6))
  obtain⟨ea,ec,rfl⟩:=own_form hown
  clear HB1 hE6 hown HE4
  go_wp2_with fail
  go_ret
  exact⟨rfl,by rw[HN.out];exact HZ.out.1,HZ.out.2⟩
 ·
  rw[hds,hz]at HNM
  rw[hpf,htp]at HP2
  replace HNM:Hid (Calls Tryz.prog 223 #[.string (bs nm)] W fun e w'=>e= .returned (.int .i32 (-1))∧w'=W):=HNM
  have HD:=Lh (number_any d z hd4 hdne hdl (hdv.trans hz) (by rw[←hz];exact hdc) hz0 W)
  clear hd4 hdne hdl hdv hdc hpf htp hds
  go_enter Tryz.func194,Tryz.ntmps194
  go_wp2_with fail
  refine hIB.out.mono ?_
  rintro e w1 ⟨rfl,rfl⟩
  have hcv:=HH.out.2
  go_wp2_with fail
  refine HNM.out.mono ?_
  rintro e w2 ⟨rfl,rfl⟩
  go_wp2_with fail
  refine HP1.out.mono ?_
  rintro e w3 ⟨rfl,rfl⟩
  go_wp2_with fail
  refine HP2.out.mono ?_
  rintro e w3 ⟨rfl,rfl⟩
  go_wp2_with fail
  refine HD.out.mono ?_
  rintro e w4 ⟨rfl,hX4⟩
  have HX4:=Lh hX4
  clear hX4
  have HB1:Hid (SB g (w4.setCell ⟨g,1,none⟩ (.int .i64 ((i:Int)+((n:Int)+1)+1))) s (i+n+2) (.slice (some ⟨bb,off,none⟩) s.length bc) ov∧Exc g w4 (w4.setCell ⟨g,1,none⟩ (.int .i64 ((i:Int)+((n:Int)+1)+1)))):=Lh (by
   have h:=(HH.out.1.ext HX4.out).put (i+n+2) hin
   rw[show(((i+n+2:Nat)):Int)=(i:Int)+((n:Int)+1)+1 by omega]at h
   exact h)
  have c1':=(HH.out.1.ext HX4.out).c1
  have f1':=(HH.out.1.ext HX4.out).f 1
  have HE4:=Lh (encode_any c HR4.out)
  have hcz:¬(z:Int)< 0:=by omega
  rw[hz]at HE4
  go_wp2_with fail
  obtain⟨w5,hw5⟩:∃X,w4.setCell ⟨g,1,none⟩ (.int .i64 ((i:Int)+((n:Int)+1)+1))=X:=⟨_,rfl⟩
  rw[hw5]at HB1⊢
  clear c0 c1 c1' f1' hw5
  refine(HE4.out w5).mono ?_
  rintro e w6 ⟨ev,rfl,hown,hE6⟩
  have hcv6:=own_conv (L:= [c]) hown
  have HZ:=Lh (And.intro (HB1.out.1.ext hE6) (((Exc.of g HX4.out).trans HB1.out.2).ext hE6))
  obtain⟨ea,ec,rfl⟩:=own_form hown
  clear HB1 hE6 hown HE4
  go_wp2_with fail
  go_ret
  exact⟨rfl,by rw[HN.out];exact HZ.out.1,HZ.out.2⟩
end
section
variable {g:Nat} {W W':World} {s:Bytes} {i:Nat} {bv ov:Value}
theorem rowB_one (u:Bytes) (c:UInt8):rowB (u++ [c])=rowB u++ [.int .u8 (c.toNat:Int)]:=by rw[rowB_app];rfl
theorem xvalue_any (h:SB g W s i bv ov) (q:UInt8) (y v r:Bytes) (hq:q=34∨q=39) (ht:s.drop i=q::(y++q::r)) (hv:PcR (plV q) y v):Calls Tryz.prog 228 #[.pointer (some ⟨g,0,none⟩)] W fun e w'=>e= .returned (.string (bs v))∧SB g w' s (i+y.length+2) bv ov∧Exc g W w':=by
 obtain⟨i0,hi0',hz0,hz1,hz2⟩:=info_parts infoU8
 have his:=drop_lt ht
 have hsq:s[i]=q:=drop_byte ht
 have hd1:s.drop (i+1)=y++q::r:=by rw[←List.drop_drop,ht];rfl
 have hlen:=congrArg List.length ht
 simp only[List.length_drop,List.length_cons,List.length_append]at hlen
 obtain⟨qz,hqz⟩:∃z:Int,(q.toNat:Int)=z:=⟨_,rfl⟩
 have hqo:qz=34∨qz=39:=by rcases hq with rfl | rfl<;> simp_all
 have HQ:=Lh hqz
 obtain⟨bb,off,bc,rfl,hcap,hbc⟩:=h.slice (by omega)
 have hl:=h.hl
 have hlt:=h.lt
 have HN:=Lh (need_any h his)
 have HS:=Lh (And.intro h (Exc.refl g W))
 have H0:Hid ((s[i].toNat:Int)=qz):=Lh (by rw[hsq];exact hqz)
 have HH:=Lh h
 obtain⟨N,hN⟩:∃N,i+1+y.length=N:=⟨_,rfl⟩
 have HD:Hid (s.drop (i+1)=y++q::r∧PcR (plV q) y v∧ []++v=v∧i+1+y.length=N):=Lh ⟨hd1,hv,rfl,hN⟩
 have HNN:=Lh hN
 have hi1:i+1< s.length:=by omega
 clear hq ht hv hsq hd1 hqz h hlen hN
 go_enter Tryz.func228,Tryz.ntmps228
 go_wp2_with fail
 refine HN.out.mono ?_
 rintro e w1 ⟨rfl,hE1⟩
 have hS1:=HS.out.1.ext hE1
 have c0:=hS1.c0;have c1:=hS1.c1
 obtain⟨hbl,cm⟩:=hS1.byte his
 rw[H0.out]at cm
 replace HS:=Lh (And.intro hS1 (HS.out.2.ext hE1))
 clear HN hE1 hS1
 go_wp2_with fail
 go_quiet (fail)
 obtain⟨w2,hw2⟩:∃w,w1.drewN nq=w:=⟨_,rfl⟩
 have Ehw2:Ext w1 w2:=by rw[←hw2];exact(Ext.refl w1).drewN _
 rw[hw2]
 have hS2:=HS.out.1.ext Ehw2
 have HX:=Lh (HS.out.2.ext Ehw2)
 clear hw2 c0 c1 cm hbl HS
 have c1:=hS2.c1;have f1:=hS2.f 1
 have HP:=hS2.put (i+1) (by omega)
 obtain⟨w3,hw3⟩:∃w,w2.setCell ⟨g,1,none⟩ (.int .i64 ((i:Int)+1))=w:=⟨_,rfl⟩
 have ei:(((i+1:Nat)):Int)=(i:Int)+1:=by omega
 rw[ei,hw3]at HP
 have HS:Hid (w3.heap[g]? =some (.cells #[.slice (some ⟨bb,off,none⟩) s.length bc,.int .i64 (i+1:Nat),ov] 122 (0,0))∧Exc g W w3∧w3.ownsRow W.heap.size 5 1 (.slice none 0 0) ([]:Bytes).length (rowB [])):=Lh ⟨HP.1.blk,HX.out.trans HP.2,World.ownsRow_nil _ _ _ _⟩
 clear ei HP HX hS2 Ehw2
 rcases hqo with rfl | rfl
 all_goals
  go_wp2_with fail
  clear hw3 c1 f1
  go_loopw [4,5] (fun u4 _ wr=>∃(m:Nat) (u y' v':Bytes) (dv:Value),dv=u4∧m< s.length∧u.length≤m∧Hid (s.drop m=y'++q::r∧PcR (plV q) y' v'∧u++v'=v∧m+y'.length=N)∧Hid (wr.heap[g]? =some (.cells #[.slice (some ⟨bb,off,none⟩) s.length bc,.int .i64 (m:Nat),ov] 122 (0,0))∧Exc g W wr∧wr.ownsRow W.heap.size 5 1 dv u.length (rowB u))) (fun _ _ wr=>atQ s.length g wr)
  case atStart=>exact⟨i+1,[],y,v,_,rfl,hi1,Nat.zero_le _,HD,HS⟩
  case round=>
   clear HS HD
   obtain⟨m,u,y',v',dv,rfl,hms,hum,HD,HI⟩:=hrel
   have hSr:=HH.out.exc HI.out.2.1 HI.out.1 (by omega)
   have HN:=Lh (need_any hSr hms)
   have HMZ:=Lh (show atQ s.length g wr=s.length - m by simp only[atQ,hSr.c1];rfl)
   clear hSr
   go_wp2_with fail
   refine HN.out.mono ?_
   rintro e w4 ⟨rfl,hE4⟩
   clear HN
   have hS4:=(HH.out.exc HI.out.2.1 HI.out.1 (by omega)).ext hE4
   have c0:=hS4.c0;have c1:=hS4.c1
   obtain⟨hbl,cm⟩:=hS4.byte hms
   have HJ:=Lh (And.intro hS4.blk (And.intro (HI.out.2.1.ext hE4) (rows_ext HI.out.2.2 hE4)))
   clear hS4 HI hE4
   rcases HD.out.2.1.inv with⟨ey,ev⟩ | ⟨c,y2,v2,ey,ev,hc,hp2⟩ | ⟨nm,c,y2,v2,ey,ev,hc,hp2⟩
   ·
    -- the quote
    have hd:=HD.out.1
    rw[ey,List.nil_append]at hd
    have ex:((s[m].toNat:Nat):Int)=_:=(congrArg (fun z:UInt8=>((z.toNat:Nat):Int)) (drop_byte hd)).trans HQ.out
    rw[ex]at cm
    have HU:Hid (u=v∧m=N):=Lh ⟨by have:=HD.out.2.2.1;rw[ev,List.append_nil]at this;exact this,by have:=HD.out.2.2.2;rw[ey]at this;exact this⟩
    clear ex hd ey ev HD
    go_wp2_with fail
    go_quiet (fail)
    obtain⟨wz,hwz⟩:∃w,w4.drewN nq=w:=⟨_,rfl⟩
    have Ehwz:Ext w4 wz:=by rw[←hwz];exact(Ext.refl w4).drewN _
    rw[hwz]
    have hbz:wz.heap[g]? =some (.cells #[.slice (some ⟨bb,off,none⟩) s.length bc,.int .i64 (m:Nat),ov] 122 (0,0)):=(Below.block Ehwz g (blk_lt HJ.out.1)).trans HJ.out.1
    have hXz:=HJ.out.2.1.ext Ehwz
    have hrz:=rows_ext HJ.out.2.2 Ehwz
    have c1':=blk_cell hbz (k:=1) rfl
    have f1:=blk_free (k:=1) hbz
    obtain⟨w6,hw6⟩:∃w,wz.setCell ⟨g,1,none⟩ (.int .i64 ((m:Int)+1))=w:=⟨_,rfl⟩
    have hb6:w6.heap[g]? =some (.cells #[.slice (some ⟨bb,off,none⟩) s.length bc,.int .i64 (m+1:Nat),ov] 122 (0,0)):=by rw[←hw6];exact blk_setc (k:=1) (u:= .int .i64 ((m:Int)+1)) hbz
    have hX6:Exc g W w6:=by rw[←hw6];exact hXz.set rfl _
    have hr6:w6.ownsRow W.heap.size 5 1 dv u.length (rowB u):=by
     rw[←hw6]
     exact rows_set hrz (p:=⟨g,1,none⟩) (fun e=>by have:=(hrz.lt g e.symm).1;omega) _
    have hcv:=own_conv hr6
    have HZ:=Lh (And.intro (HH.out.exc hX6 hb6 (by omega)) hX6)
    clear hwz c0 c1 cm hbl HJ hbz hXz hrz Ehwz hb6 hX6 hr6
    go_wp2_with fail
    go_ret
    obtain⟨eu,em⟩:=HU.out
    exact⟨by rw[eu];rfl,by rw[show i+y.length+2=m+1 by have:=HNN.out;omega];exact HZ.out.1,HZ.out.2⟩
   ·
    -- a character that stands as it is
    have hd:=HD.out.1
    rw[ey,List.cons_append]at hd
    have ex:=drop_byte hd
    have x6:=hc
    simp only[plV,Bool.and_eq_true]at x6
    obtain⟨⟨⟨⟨⟨h1,h2⟩,h3⟩,h4⟩,h5⟩,h6⟩:=x6
    have x1:((c.toNat:Int)==((q.toNat:Nat):Int))=false:=u8_ne (UInt8.toNat_lt q) (by rw[UInt8.ofNat_toNat];exact h1)
    rw[HQ.out]at x1
    have x2:=u8_ne (k:=60) (by decide) h2
    have x3:=u8_ne (k:=38) (by decide) h3
    have x4:=u8_ne (k:=9) (by decide) h4
    have x5:=u8_ne (k:=10) (by decide) h5
    have x6:=u8_ne (k:=13) (by decide) h6
    have hxl:c.toNat< 256:=UInt8.toNat_lt _
    have hm2:m+1< s.length:=by
     have:=congrArg List.length hd
     simp only[List.length_drop,List.length_cons,List.length_append]at this
     omega
    have HD2:Hid (s.drop (m+1)=y2++q::r∧PcR (plV q) y2 v2∧(u++ [c])++v2=v∧m+1+y2.length=N):=Lh ⟨by rw[←List.drop_drop,hd];rfl,hp2,by rw[List.append_assoc];have:=HD.out.2.2.1;rw[ev]at this;exact this,by have:=HD.out.2.2.2;rw[ey,List.length_cons]at this;omega⟩
    have HT:=Lh (rowB_one u c)
    rw[ex]at cm
    obtain⟨x,hx⟩:∃x:Nat,c.toNat=x:=⟨_,rfl⟩
    rw[hx]at cm x1 x2 x3 x4 x5 x6 HT hxl
    clear ex hx hd ey ev h1 h2 h3 h4 h5 h6 hc hp2 HD
    go_wp2_with fail
    go_quiet (fail)
    obtain⟨wz,hwz⟩:∃w,w4.drewN nq=w:=⟨_,rfl⟩
    have Ehwz:Ext w4 wz:=by rw[←hwz];exact(Ext.refl w4).drewN _
    rw[hwz]
    have hbz:wz.heap[g]? =some (.cells #[.slice (some ⟨bb,off,none⟩) s.length bc,.int .i64 (m:Nat),ov] 122 (0,0)):=(Below.block Ehwz g (blk_lt HJ.out.1)).trans HJ.out.1
    have hXz:=HJ.out.2.1.ext Ehwz
    have hrz:=rows_ext HJ.out.2.2 Ehwz
    have hE:Ext wz (wz.alloc (.cells #[.int .u8 (x:Int)] 5)):=(Ext.refl _).alloc _
    have hws:W.heap.size≤wz.heap.size:=hXz.1
    have hne:some g≠dv.ownBlock:=fun e=>by have:=(hrz.lt g e.symm).1;omega
    have HZ:=Lh (And.intro hbz (And.intro hXz (And.intro hrz hne)))
    have hx0:(0:Int)≤(x:Int):=by omega
    have hx1:(x:Int)≤255:=by omega
    clear hwz c0 c1 cm hbl HJ hbz hXz hrz Ehwz hne
    go_wp2_with (at_builtin;refine wpList_append_own_at _ rfl (.tmp 49) (.tmp 51) _ rfl W.heap.size 5 i0 (.int .u8 0) 1 1 Tryz.underlying43 hi0' hz0 hz1 hz2 rfl (by decide) dv u.length (rowB u) rfl (rows_ext HZ.out.2.2.1 hE) ⟨wz.heap.size,0,none⟩ 1 1 [.int .u8 (x:Int)] rfl rfl (by intro j u hj;match j,hj with | 0,hj=>simp at hj;subst hj;simp[go_sem]) (by intro u hu;simp at hu;rcases hu with rfl;rfl) (by unfold maxLen;omega) (by omega) (by simp;omega) ?_;intro vq w5 hown5 hgrow5 _ hat5;have hb5:=blk_app HZ.out.1 hgrow5 HZ.out.2.2.2;have c1:=blk_cell hb5 (k:=1) rfl;have f1:=blk_free (k:=1) hb5)
    have hX5:Exc g W w5:=HZ.out.2.1.app hgrow5 fun j hj=>(HZ.out.2.2.1.lt j hj).1
    have HR:=Lh (And.intro hb5 (And.intro hX5 hown5))
    have HE:=Lh (show atQ s.length g (w5.setCell ⟨g,1,none⟩ (.int .i64 ((m:Int)+1)))=s.length - (m+1) by
     have hc:=blk_cell (blk_setc (k:=1) (u:= .int .i64 ((m:Int)+1)) hb5) (k:=1) rfl
     simp only[atQ,hc]
     show s.length - ((m:Int)+1).toNat=_
     omega)
    go_roundw
    case rel=>
     refine⟨m+1,u++ [c],y2,v2,vq,rfl,hm2,by rw[List.length_append];simp;omega,HD2,Lh ⟨?_,HR.out.2.1.set rfl _,?_⟩⟩
     ·
      exact blk_setc (k:=1) (u:= .int .i64 ((m:Int)+1)) HR.out.1
     ·
      rw[HT.out,List.length_append]
      exact rows_set HR.out.2.2 (p:=⟨g,1,none⟩) (fun e=>by have:=(HR.out.2.2.lt g e.symm).1;omega) _
    case measure=>rw[HMZ.out,HE.out];omega
   ·
    -- a reference
    have hd:=HD.out.1
    rw[ey]at hd
    have hd:s.drop m=38::(nm++59::(y2++q::r)):=by rw[hd];simp
    have ex:=drop_byte hd
    have hm2:m+nm.length+2< s.length:=by
     have:=congrArg List.length hd
     simp only[List.length_drop,List.length_cons,List.length_append]at this
     omega
    have HD2:Hid (s.drop (m+nm.length+2)=y2++q::r∧PcR (plV q) y2 v2∧(u++ [c])++v2=v∧m+nm.length+2+y2.length=N):=Lh ⟨by
     have e:s.drop m=(38::(nm++ [59]))++(y2++q::r):=by rw[hd];simp
     rw[show m+nm.length+2=m+(38::(nm++ [59])).length by simp;omega,←List.drop_drop,e,List.drop_left],hp2,by rw[List.append_assoc];have:=HD.out.2.2.1;rw[ev]at this;exact this,by have:=HD.out.2.2.2;rw[ey]at this;simp only[List.length_cons,List.length_append]at this;omega⟩
    have HC:=Lh (And.intro hc hd)
    rw[ex]at cm
    replace cm:w4.cell? ⟨bb,off+m,none⟩=some (.int .u8 38):=cm
    clear ex hd ey ev hc hp2 HD
    go_wp2_with fail
    go_quiet (fail)
    obtain⟨wz,hwz⟩:∃w,w4.drewN nq=w:=⟨_,rfl⟩
    have Ehwz:Ext w4 wz:=by rw[←hwz];exact(Ext.refl w4).drewN _
    rw[hwz]
    have hbz:wz.heap[g]? =some (.cells #[.slice (some ⟨bb,off,none⟩) s.length bc,.int .i64 (m:Nat),ov] 122 (0,0)):=(Below.block Ehwz g (blk_lt HJ.out.1)).trans HJ.out.1
    have hXz:=HJ.out.2.1.ext Ehwz
    have hrz:=rows_ext HJ.out.2.2 Ehwz
    have HZ:=Lh (And.intro hbz (And.intro hXz hrz))
    clear hwz c0 c1 cm hbl HJ hbz hXz hrz Ehwz
    go_wp2_with fail
    refine(reference_any (HH.out.exc HZ.out.2.1 HZ.out.1 (by omega)) nm c (y2++q::r) HC.out.1 HC.out.2).mono ?_
    rintro e w5 ⟨rfl,hS5,hX5⟩
    have hr5:=xrows_exc HZ.out.2.2 hX5 (show g< W.heap.size from hlt)
    have hne:some g≠dv.ownBlock:=fun e=>by have:=(hr5.lt g e.symm).1;omega
    have HY:=Lh (And.intro hS5 (And.intro (HZ.out.2.1.trans hX5) (And.intro hr5 hne)))
    have hw5:W.heap.size≤w5.heap.size:=(HZ.out.2.1.trans hX5).1
    have HT:=Lh (rowB_one u c)
    clear hS5 hX5 hr5 hne HZ
    go_wp2_with (at_builtin;refine wpList_app_str rfl (.tmp 81) (.tmp 83) rfl W.heap.size dv u.length (rowB u) rfl HY.out.2.2.1 (bs [c]) rfl (by rw[bs_size];simp;omega) hw5 ?_;intro vn w6 hown6 hgrow6 hat6)
    rw[strCells_bs,bs_size]at hown6
    have hb6:=(hgrow6.block g HY.out.1.lt HY.out.2.2.2).trans HY.out.1.blk
    have hX6:Exc g W w6:=HY.out.2.1.grown hgrow6 fun j hj=>(HY.out.2.2.1.lt j hj).1
    have HR:=Lh (And.intro hb6 (And.intro hX6 hown6))
    have HE:=Lh (show atQ s.length g w6=s.length - (m+nm.length+2) by
     have hc:=blk_cell hb6 (k:=1) rfl
     simp only[atQ,hc]
     show s.length - ((m+nm.length+2:Nat):Int).toNat=_
     omega)
    go_roundw
    case rel=>
     refine⟨m+nm.length+2,u++ [c],y2,v2,vn,rfl,hm2,by rw[List.length_append];simp;omega,HD2,Lh ⟨HR.out.1,HR.out.2.1,?_⟩⟩
     rw[HT.out,List.length_append]
     exact HR.out.2.2
    case measure=>rw[HMZ.out,HE.out];omega
end
def st5t (W:World) (b:Nat) (a0 a1 a2 a3 a4:Value):World:=((((W.setCell ⟨b,0,none⟩ a0).setCell ⟨b,1,none⟩ a1).setCell ⟨b,2,none⟩ a2).setCell ⟨b,3,none⟩ a3).setCell ⟨b,4,none⟩ a4
theorem st5t_blk {W:World} {b:Nat} {v0 v1 v2 v3 v4:Value} {T:TypeId} {fz:Nat×Nat} (h:W.heap[b]? =some (.cells #[v0,v1,v2,v3,v4] T fz)) (a0 a1 a2 a3 a4:Value):(st5t W b a0 a1 a2 a3 a4).heap[b]? =some (.cells #[a0,a1,a2,a3,a4] T fz):=
 blk_setc (blk_setc (blk_setc (blk_setc (blk_setc h))))
theorem load_tok {W:World} {b:Nat} {a0 a1 a2 a3 a4:Value} (h:W.heap[b]? =some (.cells #[a0,a1,a2,a3,a4] 75 (0,0))):(loadVar 75 ⟨b,0,none⟩).run Tryz.prog W= .ok (.agg #[a0,a1,a2,a3,a4]) W:=by
 have c0:=blk_cell h (k:=0) rfl;have c1:=blk_cell h (k:=1) rfl;have c2:=blk_cell h (k:=2) rfl;have c3:=blk_cell h (k:=3) rfl;have c4:=blk_cell h (k:=4) rfl
 go_simp
theorem Exc.new {g:Nat} {a w:World} (h:Exc g a w) {b:Nat} (hb:a.heap.size≤b) (k:Nat) (u:Value):Exc g a (w.setCell ⟨b,k,none⟩ u):=
 ⟨by simpa using h.1,fun x h1 h2=>by rw[Below.heap_setCell _ _ _ _ (by simp only;omega)];exact h.2 x h1 h2,h.3⟩
structure TB (g r q:Nat) (T:TypeId) (W w:World) (j:Nat) (bv ov:Value) (z t:Array Value):Prop where
 b:w.heap[g]? =some (.cells #[bv,.int .i64 j,ov] 122 (0,0))
 x:Exc g W w
 r2:w.heap[r]? =some (.cells z T (0,0))
 r3:w.heap[q]? =some (.cells t T (0,0))
 hr:W.heap.size≤r
 hq:r< q
 hg:g< r
section
variable {g r q:Nat} {T:TypeId} {W W' w w':World} {s:Bytes} {i j:Nat} {bv ov:Value} {z t:Array Value}
theorem tb_begin (h:SB g W s i bv ov) (t:Array Value):TB g W.heap.size (W.heap.size+1) 75 W ((W.alloc (.cells #[.int .i64 0,.int .i64 0,.string ⟨#[]⟩,.string ⟨#[]⟩,.slice none 0 0] 75)).alloc (.cells t 75)) i bv ov #[.int .i64 0,.int .i64 0,.string ⟨#[]⟩,.string ⟨#[]⟩,.slice none 0 0] t:=by
 have hE:Ext W ((W.alloc (.cells #[.int .i64 0,.int .i64 0,.string ⟨#[]⟩,.string ⟨#[]⟩,.slice none 0 0] 75)).alloc (.cells t 75)):=((Ext.refl W).alloc _).alloc _
 refine⟨(Below.block hE g h.lt).trans h.blk,Exc.of g hE,?_,?_,Nat.le_refl _,Nat.lt_succ_self _,h.lt⟩
 ·
  exact(Below.block ((Ext.refl (W.alloc (.cells #[.int .i64 0,.int .i64 0,.string ⟨#[]⟩,.string ⟨#[]⟩,.slice none 0 0] 75))).alloc (.cells t 75)) W.heap.size (by simp)).trans (Array.getElem?_push_size ..)
 ·
  have:(W.alloc (.cells #[.int .i64 0,.int .i64 0,.string ⟨#[]⟩,.string ⟨#[]⟩,.slice none 0 0] 75)).heap.size=W.heap.size+1:=by simp
  rw[←this]
  exact Array.getElem?_push_size ..
theorem tb_begin2 (h:SB g W s i bv ov) {j:Nat} (hj:j≤s.length) (t:Array Value):TB g W.heap.size (W.heap.size+1) 75 W (((W.setCell ⟨g,1,none⟩ (.int .i64 j)).alloc (.cells #[.int .i64 0,.int .i64 0,.string ⟨#[]⟩,.string ⟨#[]⟩,.slice none 0 0] 75)).alloc (.cells t 75)) j bv ov #[.int .i64 0,.int .i64 0,.string ⟨#[]⟩,.string ⟨#[]⟩,.slice none 0 0] t:=by
 obtain⟨h1,h2⟩:=h.put j hj
 have h3:=tb_begin h1 t
 have e:(W.setCell ⟨g,1,none⟩ (.int .i64 j)).heap.size=W.heap.size:=by simp
 rw[e]at h3
 exact⟨h3.b,h2.trans h3.x,h3.r2,h3.r3,Nat.le_refl _,h3.hq,h3.hg⟩
theorem TB.call (h:TB g r q T W w j bv ov z t) {j':Nat} (hb:w'.heap[g]? =some (.cells #[bv,.int .i64 j',ov] 122 (0,0))) (hX:Exc g w w'):TB g r q T W w' j' bv ov z t:=
 ⟨hb,h.x.trans hX,(hX.2 r (by have:=h.hg;omega) (blk_lt h.r2)).trans h.r2,(hX.2 q (by have:=h.hg;have:=h.hq;omega) (blk_lt h.r3)).trans h.r3,h.hr,h.hq,h.hg⟩
theorem TB.ext (h:TB g r q T W w j bv ov z t) (hE:Ext w w'):TB g r q T W w' j bv ov z t:=h.call ((Below.block hE g (blk_lt h.b)).trans h.b) (Exc.of g hE)
theorem TB.at (h:TB g r q T W w j bv ov z t) (j':Nat):TB g r q T W (w.setCell ⟨g,1,none⟩ (.int .i64 j')) j' bv ov z t:=h.call (blk_setc h.b) ((Exc.refl g w).set rfl _)
theorem TB.set (h:TB g r q T W w j bv ov z t) (k:Nat) (u:Value):TB g r q T W (w.setCell ⟨q,k,none⟩ u) j bv ov z (t.setIfInBounds k u):=
 ⟨(Below.heap_setCell w _ _ _ (by have:=h.hg;have:=h.hq;simp only;omega)).trans h.b,h.x.new (by have:=h.hr;have:=h.hq;omega) k u,(Below.heap_setCell w _ _ _ (by have:=h.hq;simp only;omega)).trans h.r2,blk_setc h.r3,h.hr,h.hq,h.hg⟩
theorem TB.app (h:TB g r q T W w j bv ov z t) {row:Option Nat} (hg:World.grownBy w w' row) (hn:∀k,row=some k→q< k):TB g r q T W w' j bv ov z t:=
 ⟨(hg.block g (blk_lt h.b) fun e=>by have:=hn g e.symm;have:=h.hg;have:=h.hq;omega).trans h.b,h.x.grown hg fun k hk=>by have:=hn k hk;have:=h.hr;have:=h.hq;omega,(hg.block r (blk_lt h.r2) fun e=>by have:=hn r e.symm;have:=h.hq;omega).trans h.r2,(hg.block q (blk_lt h.r3) fun e=>by have:=hn q e.symm;omega).trans h.r3,h.hr,h.hq,h.hg⟩
theorem TB.sb (h:TB g r q T W w j bv ov z t) (h0:SB g W s i bv ov) (hj:j≤s.length):SB g w s j bv ov:=h0.exc h.x h.b hj
theorem TB.st (h:TB g r q T W w j bv ov z t) (a0 a1 a2 a3 a4:Value):Exc g W (st5t w r a0 a1 a2 a3 a4)∧(st5t w r a0 a1 a2 a3 a4).heap[g]? =some (.cells #[bv,.int .i64 j,ov] 122 (0,0))∧∀b,b≠r→(st5t w r a0 a1 a2 a3 a4).heap[b]? =w.heap[b]? :=by
 have hk:∀b,b≠r→(st5t w r a0 a1 a2 a3 a4).heap[b]? =w.heap[b]? :=fun b hb=>by
  unfold st5t
  rw[Below.heap_setCell _ _ _ _ (by simpa using hb),Below.heap_setCell _ _ _ _ (by simpa using hb),Below.heap_setCell _ _ _ _ (by simpa using hb),Below.heap_setCell _ _ _ _ (by simpa using hb),Below.heap_setCell _ _ _ _ (by simpa using hb)]
 refine⟨?_,(hk g (by have:=h.hg;omega)).trans h.b,hk⟩
 unfold st5t
 exact((((h.x.new h.hr 0 a0).new h.hr 1 a1).new h.hr 2 a2).new h.hr 3 a3).new h.hr 4 a4
def plC (c:UInt8):Bool:=c !=60 && c !=38 && c !=13 && c !=62
end
theorem brk_false {y v rr:Bytes} (h:PcR plC y v):hasS (y++60::rr) [93,93,62]=false:=by
 rcases h.inv with⟨rfl,_⟩ | ⟨c,y2,v2,rfl,_,hc,h2⟩ | ⟨nm,c,y2,v2,rfl,_,_,_⟩
 ·
  rfl
 ·
  rcases h2.inv with⟨rfl,_⟩ | ⟨c2,y3,v3,rfl,_,hc2,h3⟩ | ⟨nm,c2,y3,v3,rfl,_,_,_⟩
  ·
   simp[hasS,List.isPrefixOf]
  ·
   rcases h3.inv with⟨rfl,_⟩ | ⟨c3,y4,v4,rfl,_,hc3,h4⟩ | ⟨nm,c3,y4,v4,rfl,_,_,_⟩
   ·
    simp[hasS,List.isPrefixOf]
   ·
    simp only[plC,Bool.and_eq_true,bne_iff_ne,ne_eq]at hc3
    simp[hasS,List.isPrefixOf]
    exact fun _ _ e=>hc3.2 e.symm
   ·
    simp[hasS,List.isPrefixOf]
  ·
   simp[hasS,List.isPrefixOf]
 ·
  simp[hasS,List.isPrefixOf]
section
variable {g r q:Nat} {T:TypeId} {W W' w w':World} {s:Bytes} {i j:Nat} {bv ov:Value} {z t:Array Value}
theorem xchars_any (h:SB g W s i bv ov) (y v rr:Bytes) (ht:s.drop i=y++60::rr) (hv:PcR plC y v):Calls Tryz.prog 153 #[.pointer (some ⟨g,0,none⟩)] W fun e w'=>e= .returned (.agg #[.int .i64 4,.int .i64 i,.string ⟨#[]⟩,.string (bs v),.slice none 0 0])∧SB g w' s (i+y.length) bv ov∧Exc g W w':=by
 obtain⟨i0,hi0',hz0,hz1,hz2⟩:=info_parts infoU8
 have hlen:=congrArg List.length ht
 simp only[List.length_drop,List.length_append,List.length_cons]at hlen
 have his:i< s.length:=by omega
 clear hlen
 obtain⟨bb,off,bc,rfl,hcap,hbc⟩:=h.slice (by omega)
 have HB1:=Lh (tb_begin h #[.int .i64 4,.int .i64 (i:Nat),.string ⟨#[]⟩,.string ⟨#[]⟩,.slice none 0 0])
 have c1:(W.alloc (.cells #[.int .i64 0,.int .i64 0,.string ⟨#[]⟩,.string ⟨#[]⟩,.slice none 0 0] 75)).cell? ⟨g,1,none⟩=some (.int .i64 (i:Nat)):=((Ext.refl W).alloc _).keep h.lt h.c1
 have HH:=Lh h
 have hl:=h.hl
 have hlt:=h.lt
 obtain⟨N,hN⟩:∃N,i+y.length=N:=⟨_,rfl⟩
 have HD:Hid (s.drop i=y++60::rr∧PcR plC y v∧ []++v=v∧i+y.length=N):=Lh ⟨ht,hv,rfl,hN⟩
 have HNN:=Lh hN
 clear ht hv h hN
 go_enter Tryz.func153,Tryz.ntmps153
 go_wp2_with fail
 obtain⟨r,hr⟩:∃r,W.heap.size=r:=⟨_,rfl⟩
 obtain⟨w1,hw1⟩:∃X,(W.alloc (.cells #[.int .i64 0,.int .i64 0,.string ⟨#[]⟩,.string ⟨#[]⟩,.slice none 0 0] 75)).alloc (.cells #[.int .i64 4,.int .i64 (i:Int),.string ⟨#[]⟩,.string ⟨#[]⟩,.slice none 0 0] 75)=X:=⟨_,rfl⟩
 have HB0:=HB1.out
 rw[hr,hw1]at HB0
 rw[hr,hw1]
 clear hw1 c1 HB1
 have hws:W.heap.size≤w1.heap.size:=HB0.x.1
 have HS:Hid (TB g r (r+1) 75 W w1 (i) (.slice (some ⟨bb,off,none⟩) s.length bc) ov #[.int .i64 0,.int .i64 0,.string ⟨#[]⟩,.string ⟨#[]⟩,.slice none 0 0] #[.int .i64 4,.int .i64 (i:Nat),.string ⟨#[]⟩,.string ⟨#[]⟩,.slice none 0 0]∧w1.ownsRow w1.heap.size 5 1 (.slice none 0 0) ([]:Bytes).length (rowB [])):=Lh ⟨HB0,World.ownsRow_nil _ _ _ _⟩
 have hr1:r+1< w1.heap.size:=blk_lt HB0.r3
 clear HB0
 go_loopw [4,5] (fun u4 _ wr=>∃(m:Nat) (u y' v':Bytes) (dv:Value),dv=u4∧m< s.length∧u.length≤m∧w1.heap.size≤wr.heap.size∧Hid (s.drop m=y'++60::rr∧PcR plC y' v'∧u++v'=v∧m+y'.length=N)∧Hid (TB g r (r+1) 75 W wr (m) (.slice (some ⟨bb,off,none⟩) s.length bc) ov #[.int .i64 0,.int .i64 0,.string ⟨#[]⟩,.string ⟨#[]⟩,.slice none 0 0] #[.int .i64 4,.int .i64 (i:Nat),.string ⟨#[]⟩,.string ⟨#[]⟩,.slice none 0 0]∧wr.ownsRow w1.heap.size 5 1 dv u.length (rowB u))) (fun _ _ wr=>atQ s.length g wr)
 case atStart=>exact⟨i,[],y,v,_,rfl,his,Nat.zero_le _,Nat.le_refl _,HD,HS⟩
 case round=>
  clear HS HD
  obtain⟨m,u,y',v',dv,rfl,hms,hum,hwsr,HD,HI⟩:=hrel
  have hSr:=HI.out.1.sb HH.out (by omega)
  have c0:=hSr.c0;have c1:=hSr.c1
  obtain⟨hbl,cm⟩:=hSr.byte hms
  have HMZ:=Lh (show atQ s.length g wr=s.length - m by simp only[atQ,hSr.c1];rfl)
  have hlI:decide ((m:Int)< (s.length:Int))=true:=decide_eq_true (by omega)
  clear hSr
  rcases HD.out.2.1.inv with⟨ey,ev⟩ | ⟨c,y2,v2,ey,ev,hc,hp2⟩ | ⟨nm,c,y2,v2,ey,ev,hc,hp2⟩
  ·
   -- the end
   have hd:=HD.out.1
   rw[ey,List.nil_append]at hd
   have ex:=drop_byte hd
   rw[ex]at cm
   replace cm:wr.cell? ⟨bb,off+m,none⟩=some (.int .u8 60):=cm
   have HU:Hid (u=v∧m=N):=Lh ⟨by have:=HD.out.2.2.1;rw[ev,List.append_nil]at this;exact this,by have:=HD.out.2.2.2;rw[ey]at this;exact this⟩
   clear ex hd ey ev HD
   go_wp2_with fail
   go_quiet (fail)
   obtain⟨wz,hwz⟩:∃w,wr.drewN nq=w:=⟨_,rfl⟩
   have Ehwz:Ext wr wz:=by rw[←hwz];exact(Ext.refl wr).drewN _
   rw[hwz]
   have hTz:=HI.out.1.ext Ehwz
   have hrz:=rows_ext HI.out.2 Ehwz
   have hcv:=own_conv hrz
   have hTs:=hTz.set 3 (.string (bs u))
   have e0:=blk_cell hTz.r3 (k:=0) rfl;have e1:=blk_cell hTz.r3 (k:=1) rfl;have e2:=blk_cell hTz.r3 (k:=2) rfl;have e3:=blk_cell hTz.r3 (k:=3) rfl;have e4:=blk_cell hTz.r3 (k:=4) rfl
   have p0:=blk_free (k:=0) hTz.r3;have p1:=blk_free (k:=1) hTz.r3;have p2:=blk_free (k:=2) hTz.r3;have p3:=blk_free (k:=3) hTz.r3;have p4:=blk_free (k:=4) hTz.r3
   obtain⟨w8,hw8⟩:∃X,wz.setCell ⟨r+1,3,none⟩ (.string (bs u))=X:=⟨_,rfl⟩
   rw[hw8]at hTs
   simp only[List.setIfInBounds_toArray,List.set_cons_zero,List.set_cons_succ]at hTs
   have c0:=blk_cell hTs.r3 (k:=0) rfl;have c1:=blk_cell hTs.r3 (k:=1) rfl;have c2:=blk_cell hTs.r3 (k:=2) rfl;have c3:=blk_cell hTs.r3 (k:=3) rfl;have c4:=blk_cell hTs.r3 (k:=4) rfl
   have d0:=blk_cell hTs.r2 (k:=0) rfl;have d1:=blk_cell hTs.r2 (k:=1) rfl;have d2:=blk_cell hTs.r2 (k:=2) rfl;have d3:=blk_cell hTs.r2 (k:=3) rfl;have d4:=blk_cell hTs.r2 (k:=4) rfl
   have f0:=blk_free (k:=0) hTs.r2;have f1:=blk_free (k:=1) hTs.r2;have f2:=blk_free (k:=2) hTs.r2;have f3:=blk_free (k:=3) hTs.r2;have f4:=blk_free (k:=4) hTs.r2
   obtain⟨w9,hw9⟩:∃X,((((w8.setCell ⟨r,0,none⟩ (.int .i64 4)).setCell ⟨r,1,none⟩ (.int .i64 (i:Nat))).setCell ⟨r,2,none⟩ (.string ⟨#[]⟩)).setCell ⟨r,3,none⟩ (.string (bs u))).setCell ⟨r,4,none⟩ (.slice none 0 0)=X:=⟨_,rfl⟩
   have hb9:=st5t_blk hTs.r2 (.int .i64 4) (.int .i64 (i:Nat)) (.string ⟨#[]⟩) (.string (bs u)) (.slice none 0 0)
   have hx9:=hTs.st (.int .i64 4) (.int .i64 (i:Nat)) (.string ⟨#[]⟩) (.string (bs u)) (.slice none 0 0)
   unfold st5t at hb9 hx9
   rw[hw9]at hb9 hx9
   have HZ9:=Lh (And.intro hb9 hx9)
   clear hb9 hx9
   have HTS:=Lh hTs
   clear hwz hTz hrz Ehwz HI hTs cm hbl hlI
   go_wp2_with fail
   refine bodyPost_ret (res_one rfl _ _ _ ⟨r,0,none⟩ ?_ (load_tok HZ9.out.1)) rfl ?_
   ·
    first | rfl | simp
   clear hw9
   have hX9:=HZ9.out.2
   obtain⟨eu,em⟩:=HU.out
   exact⟨by rw[eu],by rw[show i+y.length=m by have:=HNN.out;omega];exact HH.out.exc hX9.1 hX9.2.1 (by omega),hX9.1⟩
  ·
   -- a character that stands as it is
   have hd:=HD.out.1
   have HBK:Hid (hasS (s.drop m) [93,93,62]=false):=Lh (by rw[hd];exact brk_false HD.out.2.1)
   rw[ey,List.cons_append]at hd
   have ex:=drop_byte hd
   have x6:=hc
   simp only[plC,Bool.and_eq_true]at x6
   obtain⟨⟨⟨h2,h3⟩,h4⟩,h5⟩:=x6
   have x2:((c.toNat:Int)==60)=false:=u8_ne (k:=60) (by decide) h2
   have x3:((c.toNat:Int)==38)=false:=u8_ne (k:=38) (by decide) h3
   have x4:((c.toNat:Int)==13)=false:=u8_ne (k:=13) (by decide) h4
   have hxl:c.toNat< 256:=UInt8.toNat_lt _
   have hm2:m+1< s.length:=by
    have:=congrArg List.length hd
    simp only[List.length_drop,List.length_cons,List.length_append]at this
    omega
   have HD2:Hid (s.drop (m+1)=y2++60::rr∧PcR plC y2 v2∧(u++ [c])++v2=v∧m+1+y2.length=N):=Lh ⟨by rw[←List.drop_drop,hd];rfl,hp2,by rw[List.append_assoc];have:=HD.out.2.2.1;rw[ev]at this;exact this,by have:=HD.out.2.2.2;rw[ey,List.length_cons]at this;omega⟩
   have HT:=Lh (rowB_one u c)
   rw[ex]at cm
   have HEX:Hid (s[m]=c):=Lh ex
   have hx93:c.toNat=93∨((c.toNat:Int)==93)=false:=by
    by_cases e:c.toNat=93
    ·
     exact .inl e
    ·
     right;rw[beq_eq_false_iff_ne];omega
   clear ex hd ey ev h2 h3 h4 h5 hc hp2 HD
   rcases hx93 with h93 | x5
   ·
    rw[h93]at cm x2 x3 x4 HT
    have HEX:Hid ((s[m].toNat:Int)=93):=Lh (by rw[HEX.out,h93];rfl)
    replace cm:wr.cell? ⟨bb,off+m,none⟩=some (.int .u8 (93:Int)):=cm
    go_wp2_with fail
    go_quiet (fail)
    go_wp2_with fail
    obtain⟨wx,hwx⟩:∃w,wr.drewN nq=w:=⟨_,rfl⟩
    have Ehwx:Ext wr wx:=by rw[←hwx];exact(Ext.refl wr).drewN _
    rw[hwx]
    have hTx:=HI.out.1.ext Ehwx
    have hSx:=hTx.sb HH.out (by omega)
    have hrx:=rows_ext HI.out.2 Ehwx
    have hsx:w1.heap.size≤wx.heap.size:=Nat.le_trans hwsr Ehwx.size
    have HXX:=Lh (And.intro hTx hrx)
    obtain⟨hbl',cm'⟩:=hSx.byte hms
    rw[HEX.out]at cm'
    have c0':=hSx.c0;have c1':=hSx.c1
    clear hwx c0 c1 cm hbl hTx hSx hrx Ehwx HI hlI
    go_quiet (fail)
    obtain⟨wy,hwy⟩:∃w,wx.drewN nq=w:=⟨_,rfl⟩
    have Ehwy:Ext wx wy:=by rw[←hwy];exact(Ext.refl wx).drewN _
    rw[hwy]
    have hTy:=HXX.out.1.ext Ehwy
    have hSy:=hTy.sb HH.out (by omega)
    have hry:=rows_ext HXX.out.2 Ehwy
    have hsy:w1.heap.size≤wy.heap.size:=Nat.le_trans hsx Ehwy.size
    have HSY:=Lh hsy
    have HY:=Lh (And.intro hTy hry)
    clear hwy c0' c1' cm' hbl' HXX hTy hry Ehwy hsx
    clear hsy
    go_wp2_with fail
    refine(has_any hSy hms [93,93,62] (by simp)).mono ?_
    rintro e wb ⟨rfl,hEb⟩
    rw[HBK.out]
    have hTy:=HY.out.1.ext hEb
    have hSy:=hTy.sb HH.out (by omega)
    have hry:=rows_ext HY.out.2 hEb
    have hsy:w1.heap.size≤wb.heap.size:=Nat.le_trans HSY.out hEb.size
    replace HY:=Lh (And.intro hTy hry)
    clear hTy hry hEb
    obtain⟨wz,hwz⟩:∃z,z=wb:=⟨_,rfl⟩
    subst hwz
    have hE:Ext wz (wz.alloc (.cells #[.int .u8 (93:Int)] 5)):=(Ext.refl _).alloc _
    have hsz:w1.heap.size≤wz.heap.size:=hsy
    have hne:∀b,b< w1.heap.size→some b≠dv.ownBlock:=fun b hb e=>by have:=(HY.out.2.lt b e.symm).1;omega
    have HZ:=Lh (And.intro HY.out.1 (And.intro HY.out.2 hne))
    clear HY hne hSy HSY
    go_wp2_with (at_builtin;refine wpList_append_own_at _ rfl (.tmp 67) (.tmp 69) _ rfl w1.heap.size 5 i0 (.int .u8 0) 1 1 Tryz.underlying43 hi0' hz0 hz1 hz2 rfl (by decide) dv u.length (rowB u) rfl (rows_ext HZ.out.2.1 hE) ⟨wz.heap.size,0,none⟩ 1 1 [.int .u8 (93:Int)] rfl rfl (by intro j u hj;match j,hj with | 0,hj=>simp at hj;subst hj;simp[go_sem]) (by intro u hu;simp at hu;rcases hu with rfl;rfl) (by unfold maxLen;omega) (by omega) (by simp;omega) ?_;intro vq w5 hown5 hgrow5 _ hat5;have hb5:=blk_app HZ.out.1.b hgrow5 (HZ.out.2.2 g (by omega));have c1:=blk_cell hb5 (k:=1) rfl;have f1:=blk_free (k:=1) hb5)
    have hT5:TB g r (r+1) 75 W w5 (m) (.slice (some ⟨bb,off,none⟩) s.length bc) ov #[.int .i64 0,.int .i64 0,.string ⟨#[]⟩,.string ⟨#[]⟩,.slice none 0 0] #[.int .i64 4,.int .i64 (i:Nat),.string ⟨#[]⟩,.string ⟨#[]⟩,.slice none 0 0]:=
     ⟨hb5,HZ.out.1.x.app hgrow5 fun j hj=>by have:=(HZ.out.2.1.lt j hj).1;omega,blk_app HZ.out.1.r2 hgrow5 (HZ.out.2.2 r (by omega)),blk_app HZ.out.1.r3 hgrow5 (HZ.out.2.2 (r+1) (by omega)),HZ.out.1.hr,HZ.out.1.hq,HZ.out.1.hg⟩
    have hs5:w1.heap.size≤w5.heap.size:=Nat.le_trans hsz (Nat.le_trans hE.size hgrow5.size)
    have HR:=Lh (And.intro hT5 hown5)
    have HE:=Lh (show atQ s.length g (w5.setCell ⟨g,1,none⟩ (.int .i64 ((m:Int)+1)))=s.length - (m+1) by
      have hc:=blk_cell (blk_setc (k:=1) (u:= .int .i64 ((m:Int)+1)) hb5) (k:=1) rfl
      simp only[atQ,hc]
      show s.length - ((m:Int)+1).toNat=_
      omega)
    go_roundw
    case rel=>
     refine⟨m+1,u++ [c],y2,v2,vq,rfl,hm2,by rw[List.length_append];simp;omega,by simpa using hs5,HD2,Lh ⟨HR.out.1.at (m+1),?_⟩⟩
     rw[HT.out,List.length_append]
     exact rows_set HR.out.2 (p:=⟨g,1,none⟩) (fun e=>by have:=(HR.out.2.lt g e.symm).1;omega) _
    case measure=>rw[HMZ.out,HE.out];omega
   ·
    obtain⟨x,hx⟩:∃x:Nat,c.toNat=x:=⟨_,rfl⟩
    have HEX:Hid ((s[m].toNat:Int)=(x:Int)):=Lh (by rw[HEX.out,hx])
    rw[hx]at cm x2 x3 x4 x5 HT hxl
    clear hx
    have x2':((x:Int) !=60)=true:=by unfold bne;rw[x2];rfl
    go_wp2_with fail
    go_quiet (fail)
    go_wp2_with fail
    obtain⟨wx,hwx⟩:∃w,wr.drewN nq=w:=⟨_,rfl⟩
    have Ehwx:Ext wr wx:=by rw[←hwx];exact(Ext.refl wr).drewN _
    rw[hwx]
    have hTx:=HI.out.1.ext Ehwx
    have hSx:=hTx.sb HH.out (by omega)
    have hrx:=rows_ext HI.out.2 Ehwx
    have hsx:w1.heap.size≤wx.heap.size:=Nat.le_trans hwsr Ehwx.size
    have HXX:=Lh (And.intro hTx hrx)
    obtain⟨hbl',cm'⟩:=hSx.byte hms
    rw[HEX.out]at cm'
    have c0':=hSx.c0;have c1':=hSx.c1
    clear hwx c0 c1 cm hbl hTx hSx hrx Ehwx HI hlI
    go_quiet (fail)
    obtain⟨wy,hwy⟩:∃w,wx.drewN nq=w:=⟨_,rfl⟩
    have Ehwy:Ext wx wy:=by rw[←hwy];exact(Ext.refl wx).drewN _
    rw[hwy]
    have hTy:=HXX.out.1.ext Ehwy
    have hSy:=hTy.sb HH.out (by omega)
    have hry:=rows_ext HXX.out.2 Ehwy
    have hsy:w1.heap.size≤wy.heap.size:=Nat.le_trans hsx Ehwy.size
    have HSY:=Lh hsy
    have HY:=Lh (And.intro hTy hry)
    clear hwy c0' c1' cm' hbl' HXX hTy hry Ehwy hsx
    obtain⟨wz,hwz⟩:∃z,z=wy:=⟨_,rfl⟩
    subst hwz
    have hE:Ext wz (wz.alloc (.cells #[.int .u8 (x:Int)] 5)):=(Ext.refl _).alloc _
    have hsz:w1.heap.size≤wz.heap.size:=hsy
    have hne:∀b,b< w1.heap.size→some b≠dv.ownBlock:=fun b hb e=>by have:=(HY.out.2.lt b e.symm).1;omega
    have HZ:=Lh (And.intro HY.out.1 (And.intro HY.out.2 hne))
    have hx0:(0:Int)≤(x:Int):=by omega
    have hx1:(x:Int)≤255:=by omega
    clear HY hne hSy HSY
    go_wp2_with (at_builtin;refine wpList_append_own_at _ rfl (.tmp 67) (.tmp 69) _ rfl w1.heap.size 5 i0 (.int .u8 0) 1 1 Tryz.underlying43 hi0' hz0 hz1 hz2 rfl (by decide) dv u.length (rowB u) rfl (rows_ext HZ.out.2.1 hE) ⟨wz.heap.size,0,none⟩ 1 1 [.int .u8 (x:Int)] rfl rfl (by intro j u hj;match j,hj with | 0,hj=>simp at hj;subst hj;simp[go_sem]) (by intro u hu;simp at hu;rcases hu with rfl;rfl) (by unfold maxLen;omega) (by omega) (by simp;omega) ?_;intro vq w5 hown5 hgrow5 _ hat5;have hb5:=blk_app HZ.out.1.b hgrow5 (HZ.out.2.2 g (by omega));have c1:=blk_cell hb5 (k:=1) rfl;have f1:=blk_free (k:=1) hb5)
    have hT5:TB g r (r+1) 75 W w5 (m) (.slice (some ⟨bb,off,none⟩) s.length bc) ov #[.int .i64 0,.int .i64 0,.string ⟨#[]⟩,.string ⟨#[]⟩,.slice none 0 0] #[.int .i64 4,.int .i64 (i:Nat),.string ⟨#[]⟩,.string ⟨#[]⟩,.slice none 0 0]:=
     ⟨hb5,HZ.out.1.x.app hgrow5 fun j hj=>by have:=(HZ.out.2.1.lt j hj).1;omega,blk_app HZ.out.1.r2 hgrow5 (HZ.out.2.2 r (by omega)),blk_app HZ.out.1.r3 hgrow5 (HZ.out.2.2 (r+1) (by omega)),HZ.out.1.hr,HZ.out.1.hq,HZ.out.1.hg⟩
    have hs5:w1.heap.size≤w5.heap.size:=Nat.le_trans hsz (Nat.le_trans hE.size hgrow5.size)
    have HR:=Lh (And.intro hT5 hown5)
    have HE:=Lh (show atQ s.length g (w5.setCell ⟨g,1,none⟩ (.int .i64 ((m:Int)+1)))=s.length - (m+1) by
      have hc:=blk_cell (blk_setc (k:=1) (u:= .int .i64 ((m:Int)+1)) hb5) (k:=1) rfl
      simp only[atQ,hc]
      show s.length - ((m:Int)+1).toNat=_
      omega)
    go_roundw
    case rel=>
     refine⟨m+1,u++ [c],y2,v2,vq,rfl,hm2,by rw[List.length_append];simp;omega,by simpa using hs5,HD2,Lh ⟨HR.out.1.at (m+1),?_⟩⟩
     rw[HT.out,List.length_append]
     exact rows_set HR.out.2 (p:=⟨g,1,none⟩) (fun e=>by have:=(HR.out.2.lt g e.symm).1;omega) _
    case measure=>rw[HMZ.out,HE.out];omega
  ·
   -- a reference
   have hd:=HD.out.1
   rw[ey]at hd
   have hd:s.drop m=38::(nm++59::(y2++60::rr)):=by rw[hd];simp
   have ex:=drop_byte hd
   have hm2:m+nm.length+2< s.length:=by
    have:=congrArg List.length hd
    simp only[List.length_drop,List.length_cons,List.length_append]at this
    omega
   have HD2:Hid (s.drop (m+nm.length+2)=y2++60::rr∧PcR plC y2 v2∧(u++ [c])++v2=v∧m+nm.length+2+y2.length=N):=Lh ⟨by
    have e:s.drop m=(38::(nm++ [59]))++(y2++60::rr):=by rw[hd];simp
    rw[show m+nm.length+2=m+(38::(nm++ [59])).length by simp;omega,←List.drop_drop,e,List.drop_left],hp2,by rw[List.append_assoc];have:=HD.out.2.2.1;rw[ev]at this;exact this,by have:=HD.out.2.2.2;rw[ey]at this;simp only[List.length_cons,List.length_append]at this;omega⟩
   have HC:=Lh (And.intro hc hd)
   have HEX:Hid ((s[m].toNat:Int)=38):=Lh (by rw[ex];rfl)
   rw[HEX.out]at cm
   clear ex hd ey ev hc hp2 HD
   go_wp2_with fail
   go_quiet (fail)
   go_wp2_with fail
   obtain⟨wx,hwx⟩:∃w,wr.drewN nq=w:=⟨_,rfl⟩
   have Ehwx:Ext wr wx:=by rw[←hwx];exact(Ext.refl wr).drewN _
   rw[hwx]
   have hTx:=HI.out.1.ext Ehwx
   have hSx:=hTx.sb HH.out (by omega)
   have hrx:=rows_ext HI.out.2 Ehwx
   have hsx:w1.heap.size≤wx.heap.size:=Nat.le_trans hwsr Ehwx.size
   have HXX:=Lh (And.intro hTx hrx)
   obtain⟨hbl',cm'⟩:=hSx.byte hms
   rw[HEX.out]at cm'
   have c0':=hSx.c0;have c1':=hSx.c1
   clear hwx c0 c1 cm hbl hTx hSx hrx Ehwx HI hlI
   go_quiet (fail)
   obtain⟨wz,hwz⟩:∃w,wx.drewN nq=w:=⟨_,rfl⟩
   have Ehwz:Ext wx wz:=by rw[←hwz];exact(Ext.refl wx).drewN _
   rw[hwz]
   have hTz:=HXX.out.1.ext Ehwz
   have hrz:=rows_ext HXX.out.2 Ehwz
   have hsz:w1.heap.size≤wz.heap.size:=Nat.le_trans hsx Ehwz.size
   have HZ:=Lh (And.intro hTz hrz)
   clear hwz c0' c1' cm' hbl' HXX hTz hrz Ehwz hsx
   go_wp2_with fail
   refine(reference_any (HZ.out.1.sb HH.out (by omega)) nm c (y2++60::rr) HC.out.1 HC.out.2).mono ?_
   rintro e w5 ⟨rfl,hS5,hX5⟩
   have hT5:=HZ.out.1.call hS5.blk hX5
   have hr5:=xrows_exc HZ.out.2 hX5 (show g< w1.heap.size by omega)
   have hne:∀b,b< w1.heap.size→some b≠dv.ownBlock:=fun b hb e=>by have:=(hr5.lt b e.symm).1;omega
   have hw5:w1.heap.size≤w5.heap.size:=Nat.le_trans hsz hX5.1
   have HY:=Lh (And.intro hT5 (And.intro hr5 hne))
   have HT:=Lh (rowB_one u c)
   clear hS5 hX5 hr5 hne hT5 HZ
   go_wp2_with (at_builtin;refine wpList_app_str rfl (.tmp 51) (.tmp 53) rfl w1.heap.size dv u.length (rowB u) rfl HY.out.2.1 (bs [c]) rfl (by rw[bs_size];simp;omega) hw5 ?_;intro vn w6 hown6 hgrow6 hat6)
   rw[strCells_bs,bs_size]at hown6
   have hT6:TB g r (r+1) 75 W w6 (m+nm.length+2) (.slice (some ⟨bb,off,none⟩) s.length bc) ov #[.int .i64 0,.int .i64 0,.string ⟨#[]⟩,.string ⟨#[]⟩,.slice none 0 0] #[.int .i64 4,.int .i64 (i:Nat),.string ⟨#[]⟩,.string ⟨#[]⟩,.slice none 0 0]:=
    ⟨(hgrow6.block g (blk_lt HY.out.1.b) (HY.out.2.2 g (by omega))).trans HY.out.1.b,HY.out.1.x.grown hgrow6 fun j hj=>by have:=(HY.out.2.1.lt j hj).1;omega,(hgrow6.block r (blk_lt HY.out.1.r2) (HY.out.2.2 r (by omega))).trans HY.out.1.r2,(hgrow6.block (r+1) (blk_lt HY.out.1.r3) (HY.out.2.2 (r+1) (by omega))).trans HY.out.1.r3,HY.out.1.hr,HY.out.1.hq,HY.out.1.hg⟩
   have hs6:w1.heap.size≤w6.heap.size:=Nat.le_trans hw5 hgrow6.size
   have HE:=Lh (show atQ s.length g w6=s.length - (m+nm.length+2) by
    have hc:=blk_cell hT6.b (k:=1) rfl
    simp only[atQ,hc]
    show s.length - ((m+nm.length+2:Nat):Int).toNat=_
    omega)
   have HR:=Lh (And.intro hT6 hown6)
   go_roundw
   case rel=>
    refine⟨m+nm.length+2,u++ [c],y2,v2,vn,rfl,hm2,by rw[List.length_append];simp;omega,hs6,HD2,Lh ⟨HR.out.1,?_⟩⟩
    rw[HT.out,List.length_append]
    exact HR.out.2
   case measure=>rw[HMZ.out,HE.out];omega
end
end Go.Proofs.YtcfibjiikhnfhaaGreatDoor
