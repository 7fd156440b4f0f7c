/-
 strings.EqualFold with xml,the lexer's instruction. Helper lemmas;no statement of the seat is proved here.
-/
import Derived.Test.YtcfibjiikhnfhaaGreatDoorU20
import Derived.ScopeJumps
import Derived.Recover
import Derived.Defers
namespace Go.Proofs.YtcfibjiikhnfhaaGreatDoor
open Go.RowKit
set_option maxHeartbeats 32000000
set_option maxRecDepth 100000
set_option linter.unusedVariables false
set_option linter.unusedSimpArgs false
theorem wp_scope_once {P:Program} {c rest:Code} {a:Act} {w:World} {Q:Exit→Act→World→Prop} (l:Nat) (hf:findLabel c l=some rest) (first:c.wp P (Exit.jump l (fun a w=>rest.wp P (Exit.noGoto Q) a w) Q) a w):(Code.scope c).wp P Q a w:=
 wp_scope_jumps l _ (fun _ _=>0) hf first fun a w h=>Code.wp_mono (fun e a w hq=>by
  cases e with
  | goto l'=>exact hq.elim
  | normal=>exact hq
  | exit id=>exact hq
  | ret=>exact hq
  | panic ch=>exact hq
  | outgrown=>exact hq) h
theorem jump_ret {l:Nat} {J:Act→World→Prop} {Q:Exit→Act→World→Prop} {a:Act} {w:World}:Exit.jump l J Q .ret a w=Q .ret a w:=rfl
theorem sfold_any (a b:Int) (h:(a,b)=(120,88)∨(a,b)=(88,120)∨(a,b)=(109,77)∨(a,b)=(77,109)∨(a,b)=(108,76)∨(a,b)=(76,108)) (w:World) (hA:AF w):Calls Tryz.prog 227 #[.int .i32 a] w fun e w'=>e= .returned (.int .i32 b)∧w'=w:=by
 obtain⟨h1,h2,h3,h4,h5,h6⟩:=hA
 rcases h with h | h | h | h | h | h
 all_goals
  obtain⟨rfl,rfl⟩:=Prod.mk.inj h
  go_enter Tryz.func227,Tryz.ntmps227
  go_wp2_with fail
  go_ret
  exact⟨rfl,rfl⟩
def xmlT:Bytes:= [120,109,108]
theorem or_hi (c:UInt8) (k:Nat) (hk:k< 128):decide ((128:Int)≤bits .or .u8 (c.toNat:Int) (k:Int))=decide (128≤c.toNat):=by
 have:∀c:Fin 256,∀k:Fin 128,decide ((128:Int)≤bits .or .u8 (c.val:Int) (k.val:Int))=decide (128≤c.val):=by decide+kernel
 exact this ⟨c.toNat,UInt8.toNat_lt c⟩ ⟨k,hk⟩
theorem decL_hi {l:Bytes} (hne:l≠ []) (h:128≤(l.getD 0 0).toNat):128≤(Lib.decodeL l).1:=by
 rw[Lib.decodeL_N]
 unfold Lib.decodeN
 repeat' split
 all_goals first | omega | (simp only;omega)
theorem three_eq:∀(l:Bytes) (h:l.length=3),[l[0]'(by omega),l[1]'(by omega),l[2]'(by omega)]=l
 | [a,b,c],_=>rfl
theorem ext_data (l:Bytes) (i:Nat) (h:i≤l.length):((bs l).extract i (bs l).size).data.toList=l.drop i:=by
 rw[bs_extract,bs_size,List.take_of_length_le (by rw[List.length_drop];omega)]
 simp[bs]
def foldC (c:UInt8) (j:Nat):Prop:=c.toNat=(xmlT.getD j 0).toNat∨c.toNat+32=(xmlT.getD j 0).toNat
theorem fold3 {a b c:UInt8} (h0:foldC a 0) (h1:foldC b 1) (h2:foldC c 2):Lib.toLowerD [a,b,c]=xmlT:=by
 have e0:a=120∨a=88:=by
  rcases h0 with h | h
  ·
   left;exact UInt8.toNat_inj.1 h
  ·
   right;refine UInt8.toNat_inj.1 ?_;have h:a.toNat+32=120:=h;show a.toNat=88;omega
 have e1:b=109∨b=77:=by
  rcases h1 with h | h
  ·
   left;exact UInt8.toNat_inj.1 h
  ·
   right;refine UInt8.toNat_inj.1 ?_;have h:b.toNat+32=109:=h;show b.toNat=77;omega
 have e2:c=108∨c=76:=by
  rcases h2 with h | h
  ·
   left;exact UInt8.toNat_inj.1 h
  ·
   right;refine UInt8.toNat_inj.1 ?_;have h:c.toNat+32=108:=h;show c.toNat=76;omega
 rcases e0 with rfl | rfl<;> rcases e1 with rfl | rfl<;> rcases e2 with rfl | rfl<;> (have e:∀x y:Bytes,Lib.toLowerD x=y→Lib.toLowerD x=y:=fun _ _ h=>h;apply e;first | decide | rfl)
theorem efold_any (nm:Bytes) (hl:nm.length≤65536) (hx:Lib.toLowerD nm≠xmlT) (w:World) (hT:Tabs w) (hA:AF w):Calls Tryz.prog 200 #[.string (bs nm),.string (bs xmlT)] w fun e w'=>e= .returned (.bool false)∧Ext w w':=by
 obtain⟨M,hM⟩:∃M:Nat,min (nm.length:Int) 3=(M:Int):=⟨min nm.length 3,by omega⟩
 have hM1:M≤nm.length:=by omega
 have hM2:M≤3:=by omega
 have hMe:M=nm.length∨M=3:=by omega
 have HX:=Lh hx
 have HMM:=Lh hM
 have HTA:=Lh (And.intro hT hA)
 have h0:Hid (∀(j:Nat) (hj:j< 0) (hj2:j< nm.length),foldC nm[j] j):=Lh fun j hj=>absurd hj (Nat.not_lt_zero _)
 have hsz:((bs nm).size:Int)=(nm.length:Int):=by rw[bs_size]
 have hsx:((bs xmlT).size:Int)=3:=by rw[bs_size];rfl
 clear hx hT hA
 go_enter Tryz.func200,Tryz.ntmps200
 go_wp2_with fail
 refine wp_scope_once 0 (by rfl) ?_
 go_wp2_with fail
 go_loopw [5,7,8] (fun u5 _ _ wr=>wr=w∧∃i:Nat,u5= .int .i64 i∧i≤M∧Hid (∀(j:Nat) (hj:j< i) (hj2:j< nm.length),foldC nm[j] j)) (fun u5 _ _ _=>downV M u5)
 case atStart=>exact⟨rfl,0,rfl,Nat.zero_le _,h0⟩
 case round=>
  obtain⟨hw,i,rfl,hi,HI⟩:=hrel
  subst hw
  have hi0:(0:Int)≤(i:Int):=by omega
  by_cases hlt:i< M
  ·
   have hlI:(i:Int)< (M:Int):=by omega
   have hil:i< nm.length:=by omega
   obtain⟨c,hc⟩:∃c,nm[i]=c:=⟨_,rfl⟩
   obtain⟨x,hx⟩:∃x,c.toNat=x:=⟨_,rfl⟩
   have hx256:x< 256:=by rw[←hx];exact UInt8.toNat_lt c
   have hil':i< (bs nm).size:=by rw[bs_size];exact hil
   have hi3:i< (bs xmlT).size:=by rw[bs_size];show i< 3;omega
   have hilI:(i:Int)< (nm.length:Int):=by omega
   have hi3I:(i:Int)< 3:=by omega
   have hcx:((bs nm)[i]'hil').toNat=x:=by rw[←hx,←hc];rfl
   have HCX:=Lh (And.intro hc hx)
   clear hc hx
   have h012:i=0∨i=1∨i=2:=by omega
   rcases h012 with rfl | rfl | rfl
   ·
    have htx:((bs xmlT)[0]'hi3).toNat=120:=by rfl
    have hor:=or_hi c 120 (by decide)
    rw[HCX.out.2]at hor
    have hT1:xmlT.getD 0 0=(120:UInt8):=rfl
    by_cases h128:128≤x
    ·
     rw[decide_eq_true h128]at hor
     have hor2:(128:Int)≤bits .or .u8 (x:Int) 120:=of_decide_eq_true hor
     clear hor
     go_wp2_with fail
     refine wp_goto ?_
     refine⟨rfl,?_⟩
     clear HI hor2 hT1
     have hgl:nm.getD 0 0=c:=by rw[List.getD_eq_getElem?_getD,List.getElem?_eq_getElem hil,HCX.out.1];rfl
     obtain⟨S,hS⟩:∃S,bs nm=S:=⟨_,rfl⟩
     obtain⟨V,hV⟩:∃S,bs xmlT=S:=⟨_,rfl⟩
     have hSd:S.data.toList=nm.drop 0:=by rw[←hS];simp[bs]
     have hVd:Lib.decodeGo V=(120,1):=by rw[←hV];kernel_rfl
     have hVs:((V.size:Nat):Int)=3:=by rw[←hV];rfl
     have hpos:0< S.size:=by rw[Lib.size_eq,hSd,List.length_drop];omega
     have hdd:Utf8.decode S 0=Lib.decodeL (nm.drop 0):=by rw[←hSd,←List.drop_zero (l:=S.data.toList)];exact(Lib.decodeL_drop S 0).symm
     have hr:128≤(Lib.decodeL (nm.drop 0)).1:=decL_hi (fun e=>by have h:=congrArg List.length e;rw[List.length_drop]at h;simp only[List.length_nil]at h;omega) (by
      rw[Lib.getD_dropU,Nat.add_zero,hgl,HCX.out.2];exact h128)
     obtain⟨r,hr0⟩:∃r,(Lib.decodeL (nm.drop 0)).1=r:=⟨_,rfl⟩
     obtain⟨n,hn0⟩:∃n,(Lib.decodeL (nm.drop 0)).2=n:=⟨_,rfl⟩
     rw[hr0]at hr
     have hnx:∀ty,(Instr.next (.pointer (some ⟨wr.heap.size,0,none⟩)) true ty).run Tryz.prog (wr.iter S 0)=_:=fun ty=>Lib.run_next_any_at (wr.iter S 0) wr.heap.size S 0 ty (World.iter_heap _ _ _) hpos
     rw[hdd,hr0,hn0]at hnx
     have hE1:Ext wr (wr.iter S 0):=(Ext.refl wr).alloc _
     have hE2:Ext wr ((wr.iter S 0).iterAt wr.heap.size S (0+n)):=Lib.below_iterAt hE1 (Nat.le_refl _) S (0+n)
     have hr1:(128:Int)≤(r:Int):=by omega
     have q1:((120:Int)==(r:Int))=false:=by rw[beq_eq_false_iff_ne];omega
     have q2:(120:Int)< (r:Int):=by omega
     have q3:¬(r:Int)< 128:=by omega
     have q4:(88:Int)< (r:Int):=by omega
     have HCC:=Lh (And.intro hcx htx)
     clear hdd hr0 hn0 hr hgl hSd hcx htx
     go_wp2_with fail
     try simp only[hS,hV]
     refine wp_loop_rounds 1 ?_
     rw[rounds_succ]
     obtain⟨w1,hw1⟩:∃w,(wr.iter S 0).iterAt wr.heap.size S (0+n)=w:=⟨_,rfl⟩
     rw[hw1]at hnx hE2
     clear hw1
     go_wp2_with fail
     refine(Tryz.utf8_DecodeRuneInString V w1 (Utf8Tabs_below HTA.out.1 hE2)).mono ?_
     rintro e w2 ⟨rfl,hE3⟩
     rw[hVd]
     have HX2:=Lh (hE2.trans hE3)
     clear hE1 hE2 hE3 hnx
     go_wp2_with fail
     refine(sfold_any 120 88 (by decide) w2 (HTA.out.2.ext HX2.out)).mono ?_
     rintro e w3 ⟨rfl,rfl⟩
     go_wp2_with fail
     refine wp_loop_rounds 2 ?_
     rw[rounds_succ]
     go_wp2_with fail
     refine(sfold_any 88 120 (by decide) w3 (HTA.out.2.ext HX2.out)).mono ?_
     rintro e w4 ⟨rfl,rfl⟩
     go_wp2_with fail
     rw[rounds_succ]
     go_wp2_with fail
     rw[Exit.noGoto_ret]
     go_ret
     exact⟨rfl,HX2.out⟩
    rw[decide_eq_false h128]at hor
    have hor2:¬(128:Int)≤bits .or .u8 (x:Int) 120:=of_decide_eq_false hor
    clear hor
    by_cases hxe:x=120∨x=88
    ·
     have HN:Hid (∀(j:Nat) (hj:j< 0+1) (hj2:j< nm.length),foldC nm[j] j):=Lh fun j hj hj2=>by
      by_cases e:j=0
      ·
       subst e
       rw[HCX.out.1]
       unfold foldC
       rw[hT1,HCX.out.2]
       rcases hxe with rfl | rfl
       ·
        exact .inl rfl
       ·
        exact .inr rfl
      ·
       exact HI.out j (by omega) hj2
     rcases hxe with rfl | rfl
     all_goals
      go_wp2_with fail
      go_roundw
      case rel=>exact⟨trivial,0+1,by first | rfl | go_num,by omega,HN⟩
      case measure=>simp only[downV];omega
    ·
     have hne1:¬x=120:=fun e=>hxe (.inl e)
     have hne2:¬x=88:=fun e=>hxe (.inr e)
     have q1:((120:Int)==(x:Int))=false:=by rw[beq_eq_false_iff_ne];omega
     have hwa:IntKind.u8.wrap ((x:Int)+97)=(x:Int)+97:=by rw[IntKind.wrap_u8];omega
     have hwb:IntKind.u8.wrap ((x:Int)+97 - 65)=(x:Int)+97 - 65:=by rw[IntKind.wrap_u8];omega
     have q2:((120:Int)==(x:Int)+97 - 65)=false:=by rw[beq_eq_false_iff_ne];omega
     have q3:((x:Int)==151)=false:=by rw[beq_eq_false_iff_ne];omega
     clear hxe
     by_cases hl2:(120:Int)< (x:Int)
     ·
      go_wp2_with fail
      rw[jump_ret]
      go_ret
      exact⟨rfl,Ext.refl _⟩
     ·
      by_cases h65:(65:Int)≤(x:Int)
      ·
       by_cases h90:(x:Int)≤90
       ·
        go_wp2_with fail
        rw[jump_ret]
        go_ret
        exact⟨rfl,Ext.refl _⟩
       ·
        go_wp2_with fail
        rw[jump_ret]
        go_ret
        exact⟨rfl,Ext.refl _⟩
      ·
       go_wp2_with fail
       rw[jump_ret]
       go_ret
       exact⟨rfl,Ext.refl _⟩
   ·
    have htx:((bs xmlT)[1]'hi3).toNat=109:=by rfl
    have hor:=or_hi c 109 (by decide)
    rw[HCX.out.2]at hor
    have hT1:xmlT.getD 1 0=(109:UInt8):=rfl
    by_cases h128:128≤x
    ·
     rw[decide_eq_true h128]at hor
     have hor2:(128:Int)≤bits .or .u8 (x:Int) 109:=of_decide_eq_true hor
     clear hor
     go_wp2_with fail
     refine wp_goto ?_
     refine⟨rfl,?_⟩
     clear HI hor2 hT1
     have hgl:nm.getD 1 0=c:=by rw[List.getD_eq_getElem?_getD,List.getElem?_eq_getElem hil,HCX.out.1];rfl
     obtain⟨S,hS⟩:∃S,(bs nm).extract 1 (bs nm).size=S:=⟨_,rfl⟩
     obtain⟨V,hV⟩:∃S,(bs xmlT).extract 1 (bs xmlT).size=S:=⟨_,rfl⟩
     have hSd:S.data.toList=nm.drop 1:=by rw[←hS];exact ext_data nm 1 (by omega)
     have hVd:Lib.decodeGo V=(109,1):=by rw[←hV];kernel_rfl
     have hVs:((V.size:Nat):Int)=2:=by rw[←hV];rfl
     have hpos:0< S.size:=by rw[Lib.size_eq,hSd,List.length_drop];omega
     have hdd:Utf8.decode S 0=Lib.decodeL (nm.drop 1):=by rw[←hSd,←List.drop_zero (l:=S.data.toList)];exact(Lib.decodeL_drop S 0).symm
     have hr:128≤(Lib.decodeL (nm.drop 1)).1:=decL_hi (fun e=>by have h:=congrArg List.length e;rw[List.length_drop]at h;simp only[List.length_nil]at h;omega) (by
      rw[Lib.getD_dropU,Nat.add_zero,hgl,HCX.out.2];exact h128)
     obtain⟨r,hr0⟩:∃r,(Lib.decodeL (nm.drop 1)).1=r:=⟨_,rfl⟩
     obtain⟨n,hn0⟩:∃n,(Lib.decodeL (nm.drop 1)).2=n:=⟨_,rfl⟩
     rw[hr0]at hr
     have hnx:∀ty,(Instr.next (.pointer (some ⟨wr.heap.size,0,none⟩)) true ty).run Tryz.prog (wr.iter S 0)=_:=fun ty=>Lib.run_next_any_at (wr.iter S 0) wr.heap.size S 0 ty (World.iter_heap _ _ _) hpos
     rw[hdd,hr0,hn0]at hnx
     have hE1:Ext wr (wr.iter S 0):=(Ext.refl wr).alloc _
     have hE2:Ext wr ((wr.iter S 0).iterAt wr.heap.size S (0+n)):=Lib.below_iterAt hE1 (Nat.le_refl _) S (0+n)
     have hr1:(128:Int)≤(r:Int):=by omega
     have q1:((109:Int)==(r:Int))=false:=by rw[beq_eq_false_iff_ne];omega
     have q2:(109:Int)< (r:Int):=by omega
     have q3:¬(r:Int)< 128:=by omega
     have q4:(77:Int)< (r:Int):=by omega
     have HCC:=Lh (And.intro hcx htx)
     clear hdd hr0 hn0 hr hgl hSd hcx htx
     go_wp2_with fail
     try simp only[hS,hV]
     refine wp_loop_rounds 1 ?_
     rw[rounds_succ]
     obtain⟨w1,hw1⟩:∃w,(wr.iter S 0).iterAt wr.heap.size S (0+n)=w:=⟨_,rfl⟩
     rw[hw1]at hnx hE2
     clear hw1
     go_wp2_with fail
     refine(Tryz.utf8_DecodeRuneInString V w1 (Utf8Tabs_below HTA.out.1 hE2)).mono ?_
     rintro e w2 ⟨rfl,hE3⟩
     rw[hVd]
     have HX2:=Lh (hE2.trans hE3)
     clear hE1 hE2 hE3 hnx
     go_wp2_with fail
     refine(sfold_any 109 77 (by decide) w2 (HTA.out.2.ext HX2.out)).mono ?_
     rintro e w3 ⟨rfl,rfl⟩
     go_wp2_with fail
     refine wp_loop_rounds 2 ?_
     rw[rounds_succ]
     go_wp2_with fail
     refine(sfold_any 77 109 (by decide) w3 (HTA.out.2.ext HX2.out)).mono ?_
     rintro e w4 ⟨rfl,rfl⟩
     go_wp2_with fail
     rw[rounds_succ]
     go_wp2_with fail
     rw[Exit.noGoto_ret]
     go_ret
     exact⟨rfl,HX2.out⟩
    rw[decide_eq_false h128]at hor
    have hor2:¬(128:Int)≤bits .or .u8 (x:Int) 109:=of_decide_eq_false hor
    clear hor
    by_cases hxe:x=109∨x=77
    ·
     have HN:Hid (∀(j:Nat) (hj:j< 1+1) (hj2:j< nm.length),foldC nm[j] j):=Lh fun j hj hj2=>by
      by_cases e:j=1
      ·
       subst e
       rw[HCX.out.1]
       unfold foldC
       rw[hT1,HCX.out.2]
       rcases hxe with rfl | rfl
       ·
        exact .inl rfl
       ·
        exact .inr rfl
      ·
       exact HI.out j (by omega) hj2
     rcases hxe with rfl | rfl
     all_goals
      go_wp2_with fail
      go_roundw
      case rel=>exact⟨trivial,1+1,by first | rfl | go_num,by omega,HN⟩
      case measure=>simp only[downV];omega
    ·
     have hne1:¬x=109:=fun e=>hxe (.inl e)
     have hne2:¬x=77:=fun e=>hxe (.inr e)
     have q1:((109:Int)==(x:Int))=false:=by rw[beq_eq_false_iff_ne];omega
     have hwa:IntKind.u8.wrap ((x:Int)+97)=(x:Int)+97:=by rw[IntKind.wrap_u8];omega
     have hwb:IntKind.u8.wrap ((x:Int)+97 - 65)=(x:Int)+97 - 65:=by rw[IntKind.wrap_u8];omega
     have q2:((109:Int)==(x:Int)+97 - 65)=false:=by rw[beq_eq_false_iff_ne];omega
     have q3:((x:Int)==151)=false:=by rw[beq_eq_false_iff_ne];omega
     clear hxe
     by_cases hl2:(109:Int)< (x:Int)
     ·
      go_wp2_with fail
      rw[jump_ret]
      go_ret
      exact⟨rfl,Ext.refl _⟩
     ·
      by_cases h65:(65:Int)≤(x:Int)
      ·
       by_cases h90:(x:Int)≤90
       ·
        go_wp2_with fail
        rw[jump_ret]
        go_ret
        exact⟨rfl,Ext.refl _⟩
       ·
        go_wp2_with fail
        rw[jump_ret]
        go_ret
        exact⟨rfl,Ext.refl _⟩
      ·
       go_wp2_with fail
       rw[jump_ret]
       go_ret
       exact⟨rfl,Ext.refl _⟩
   ·
    have htx:((bs xmlT)[2]'hi3).toNat=108:=by rfl
    have hor:=or_hi c 108 (by decide)
    rw[HCX.out.2]at hor
    have hT1:xmlT.getD 2 0=(108:UInt8):=rfl
    by_cases h128:128≤x
    ·
     rw[decide_eq_true h128]at hor
     have hor2:(128:Int)≤bits .or .u8 (x:Int) 108:=of_decide_eq_true hor
     clear hor
     go_wp2_with fail
     refine wp_goto ?_
     refine⟨rfl,?_⟩
     clear HI hor2 hT1
     have hgl:nm.getD 2 0=c:=by rw[List.getD_eq_getElem?_getD,List.getElem?_eq_getElem hil,HCX.out.1];rfl
     obtain⟨S,hS⟩:∃S,(bs nm).extract 2 (bs nm).size=S:=⟨_,rfl⟩
     obtain⟨V,hV⟩:∃S,(bs xmlT).extract 2 (bs xmlT).size=S:=⟨_,rfl⟩
     have hSd:S.data.toList=nm.drop 2:=by rw[←hS];exact ext_data nm 2 (by omega)
     have hVd:Lib.decodeGo V=(108,1):=by rw[←hV];kernel_rfl
     have hVs:((V.size:Nat):Int)=1:=by rw[←hV];rfl
     have hpos:0< S.size:=by rw[Lib.size_eq,hSd,List.length_drop];omega
     have hdd:Utf8.decode S 0=Lib.decodeL (nm.drop 2):=by rw[←hSd,←List.drop_zero (l:=S.data.toList)];exact(Lib.decodeL_drop S 0).symm
     have hr:128≤(Lib.decodeL (nm.drop 2)).1:=decL_hi (fun e=>by have h:=congrArg List.length e;rw[List.length_drop]at h;simp only[List.length_nil]at h;omega) (by
      rw[Lib.getD_dropU,Nat.add_zero,hgl,HCX.out.2];exact h128)
     obtain⟨r,hr0⟩:∃r,(Lib.decodeL (nm.drop 2)).1=r:=⟨_,rfl⟩
     obtain⟨n,hn0⟩:∃n,(Lib.decodeL (nm.drop 2)).2=n:=⟨_,rfl⟩
     rw[hr0]at hr
     have hnx:∀ty,(Instr.next (.pointer (some ⟨wr.heap.size,0,none⟩)) true ty).run Tryz.prog (wr.iter S 0)=_:=fun ty=>Lib.run_next_any_at (wr.iter S 0) wr.heap.size S 0 ty (World.iter_heap _ _ _) hpos
     rw[hdd,hr0,hn0]at hnx
     have hE1:Ext wr (wr.iter S 0):=(Ext.refl wr).alloc _
     have hE2:Ext wr ((wr.iter S 0).iterAt wr.heap.size S (0+n)):=Lib.below_iterAt hE1 (Nat.le_refl _) S (0+n)
     have hr1:(128:Int)≤(r:Int):=by omega
     have q1:((108:Int)==(r:Int))=false:=by rw[beq_eq_false_iff_ne];omega
     have q2:(108:Int)< (r:Int):=by omega
     have q3:¬(r:Int)< 128:=by omega
     have q4:(76:Int)< (r:Int):=by omega
     have HCC:=Lh (And.intro hcx htx)
     clear hdd hr0 hn0 hr hgl hSd hcx htx
     go_wp2_with fail
     try simp only[hS,hV]
     refine wp_loop_rounds 1 ?_
     rw[rounds_succ]
     obtain⟨w1,hw1⟩:∃w,(wr.iter S 0).iterAt wr.heap.size S (0+n)=w:=⟨_,rfl⟩
     rw[hw1]at hnx hE2
     clear hw1
     go_wp2_with fail
     refine(Tryz.utf8_DecodeRuneInString V w1 (Utf8Tabs_below HTA.out.1 hE2)).mono ?_
     rintro e w2 ⟨rfl,hE3⟩
     rw[hVd]
     have HX2:=Lh (hE2.trans hE3)
     clear hE1 hE2 hE3 hnx
     go_wp2_with fail
     refine(sfold_any 108 76 (by decide) w2 (HTA.out.2.ext HX2.out)).mono ?_
     rintro e w3 ⟨rfl,rfl⟩
     go_wp2_with fail
     refine wp_loop_rounds 2 ?_
     rw[rounds_succ]
     go_wp2_with fail
     refine(sfold_any 76 108 (by decide) w3 (HTA.out.2.ext HX2.out)).mono ?_
     rintro e w4 ⟨rfl,rfl⟩
     go_wp2_with fail
     rw[rounds_succ]
     go_wp2_with fail
     rw[Exit.noGoto_ret]
     go_ret
     exact⟨rfl,HX2.out⟩
    rw[decide_eq_false h128]at hor
    have hor2:¬(128:Int)≤bits .or .u8 (x:Int) 108:=of_decide_eq_false hor
    clear hor
    by_cases hxe:x=108∨x=76
    ·
     have HN:Hid (∀(j:Nat) (hj:j< 2+1) (hj2:j< nm.length),foldC nm[j] j):=Lh fun j hj hj2=>by
      by_cases e:j=2
      ·
       subst e
       rw[HCX.out.1]
       unfold foldC
       rw[hT1,HCX.out.2]
       rcases hxe with rfl | rfl
       ·
        exact .inl rfl
       ·
        exact .inr rfl
      ·
       exact HI.out j (by omega) hj2
     rcases hxe with rfl | rfl
     all_goals
      go_wp2_with fail
      go_roundw
      case rel=>exact⟨trivial,2+1,by first | rfl | go_num,by omega,HN⟩
      case measure=>simp only[downV];omega
    ·
     have hne1:¬x=108:=fun e=>hxe (.inl e)
     have hne2:¬x=76:=fun e=>hxe (.inr e)
     have q1:((108:Int)==(x:Int))=false:=by rw[beq_eq_false_iff_ne];omega
     have hwa:IntKind.u8.wrap ((x:Int)+97)=(x:Int)+97:=by rw[IntKind.wrap_u8];omega
     have hwb:IntKind.u8.wrap ((x:Int)+97 - 65)=(x:Int)+97 - 65:=by rw[IntKind.wrap_u8];omega
     have q2:((108:Int)==(x:Int)+97 - 65)=false:=by rw[beq_eq_false_iff_ne];omega
     have q3:((x:Int)==151)=false:=by rw[beq_eq_false_iff_ne];omega
     clear hxe
     by_cases hl2:(108:Int)< (x:Int)
     ·
      go_wp2_with fail
      rw[jump_ret]
      go_ret
      exact⟨rfl,Ext.refl _⟩
     ·
      by_cases h65:(65:Int)≤(x:Int)
      ·
       by_cases h90:(x:Int)≤90
       ·
        go_wp2_with fail
        rw[jump_ret]
        go_ret
        exact⟨rfl,Ext.refl _⟩
       ·
        go_wp2_with fail
        rw[jump_ret]
        go_ret
        exact⟨rfl,Ext.refl _⟩
      ·
       go_wp2_with fail
       rw[jump_ret]
       go_ret
       exact⟨rfl,Ext.refl _⟩
  ·
   have him:i=M:=by omega
   have hlI:¬(i:Int)< (M:Int):=by omega
   have hq:((nm.length:Int)==3)=false:=by
    rw[beq_eq_false_iff_ne]
    intro e
    have h3:nm.length=3:=by omega
    have e4:=three_eq nm h3
    have f:=fold3 (HI.out 0 (by omega) (by omega)) (HI.out 1 (by omega) (by omega)) (HI.out 2 (by omega) (by omega))
    rw[e4]at f
    exact HX.out f
   clear him HI
   go_wp2_with fail
   rw[jump_ret]
   go_ret
   exact⟨rfl,Ext.refl _⟩
def PiR (s:Bytes) (i:Nat) (nm tx:Bytes) (e:Nat):Prop:=∃(n b:Nat) (r:Bytes),nameS (s.drop (i+2))=n∧0< n∧nm=(s.drop (i+2)).take n∧Lib.toLowerD nm≠xmlT∧blS (s.drop (i+2+n))=b∧
 ((b=0∧tx= []∧s.drop (i+2+n)=63::62::r∧e=i+2+n+2)∨(0< b∧s.drop (i+2+n+b)=tx++63::62::r∧Lib.index (s.drop (i+2+n+b)) [63,62]=tx.length∧(∀x∈tx,x≠13)∧e=i+2+n+b+tx.length+2))
section
variable {g r q:Nat} {T:TypeId} {W W' w w':World} {s:Bytes} {i j:Nat} {bv ov:Value} {z t:Array Value}
theorem instruction_any (h:SB g W s i bv ov) (nm tx:Bytes) (e:Nat) (hR:PiR s i nm tx e):Calls Tryz.prog 155 #[.pointer (some ⟨g,0,none⟩)] W fun ed w'=>ed= .returned (.agg #[.int .i64 7,.int .i64 i,.string (bs nm),.string (bs tx),.slice none 0 0])∧SB g w' s e bv ov∧Exc g W w':=by
 obtain⟨n,b,rr,hn,hn0,hnm,hlow,hb,hcase⟩:=hR
 obtain⟨hnl,hil⟩:=nameS_lt (s:=s) (p:=i+2) (by omega)
 have hbl:i+2+n+b+2≤s.length:=by
  rcases hcase with⟨h1,_,h2,_⟩ | ⟨_,h2,_⟩
  ·
   have:=congrArg List.length h2
   simp only[List.length_drop,List.length_cons]at this
   omega
  ·
   have:=congrArg List.length h2
   simp only[List.length_drop,List.length_append,List.length_cons]at this
   omega
 have hnml:nm.length≤65536:=by
  rw[hnm,List.length_take,List.length_drop];have:=h.hl;omega
 have HN:=Lh (And.intro hn (And.intro hn0 (And.intro hlow hb)))
 have HNM:=Lh hnm.symm
 have HCS:=Lh hcase
 have HB1:=Lh (tb_begin2 h (j:=i+2) (by omega) #[.int .i64 7,.int .i64 (i:Nat),.string ⟨#[]⟩,.string ⟨#[]⟩,.slice none 0 0])
 have c1:(W.alloc (.cells #[.int .i64 0,.int .i64 0,.string ⟨#[]⟩,.string ⟨#[]⟩,.slice none 0 0] 75)).cell? ⟨g,1,none⟩=some (.int .i64 (i:Nat)):=((Ext.refl W).alloc _).keep h.lt h.c1
 have k1:=blk_cell (tb_begin h #[.int .i64 7,.int .i64 (i:Int),.string ⟨#[]⟩,.string ⟨#[]⟩,.slice none 0 0]).b (k:=1) rfl
 have j1:=blk_free (k:=1) (tb_begin h #[.int .i64 7,.int .i64 (i:Int),.string ⟨#[]⟩,.string ⟨#[]⟩,.slice none 0 0]).b
 have HH:=Lh h
 have hl:=h.hl
 have hlt:=h.lt
 have k9:(((W.setCell ⟨g,1,none⟩ (.int .i64 ((i:Int)+2))).alloc (.cells #[.int .i64 0,.int .i64 0,.string ⟨#[]⟩,.string ⟨#[]⟩,.slice none 0 0] 75)).alloc (.cells #[.int .i64 7,.int .i64 (i:Int),.string ⟨#[]⟩,.string ⟨#[]⟩,.slice none 0 0] 75)).cell? ⟨g,1,none⟩=some (.int .i64 ((i:Int)+2)):=blk_cell HB1.out.b (k:=1) rfl
 clear h hn hn0 hlow hb hnm hcase
 go_enter Tryz.func155,Tryz.ntmps155
 go_wp2_with fail
 obtain⟨r,hr⟩:∃r,W.heap.size=r:=⟨_,rfl⟩
 obtain⟨w1,hw1⟩:∃X,((W.setCell ⟨g,1,none⟩ (.int .i64 ((i:Int)+2))).alloc (.cells #[.int .i64 0,.int .i64 0,.string ⟨#[]⟩,.string ⟨#[]⟩,.slice none 0 0] 75)).alloc (.cells #[.int .i64 7,.int .i64 (i:Int),.string ⟨#[]⟩,.string ⟨#[]⟩,.slice none 0 0] 75)=X:=⟨_,rfl⟩
 have HB0:=HB1.out
 rw[hr,show(((i+2:Nat)):Int)=(i:Int)+2 from rfl,hw1]at HB0
 rw[hr,hw1]
 clear hw1 c1 k1 j1 HB1
 have HB2:=Lh HB0
 clear HB0 k9
 refine(xname_any (HB2.out.sb HH.out (by omega)) hil (by rw[HN.out.1];exact HN.out.2.1)).mono ?_
 rintro e1 w3 ⟨rfl,hS3,hX3⟩
 rw[HN.out.1,HNM.out]at*
 have HB3:=HB2.out.call hS3.blk hX3
 obtain⟨w4,hw4⟩:∃X,w3.setCell ⟨r+1,2,none⟩ (.string (bs nm))=X:=⟨_,rfl⟩
 have HB4:=HB3.set 2 (.string (bs nm))
 rw[hw4]at HB4
 simp only[List.setIfInBounds_toArray,List.set_cons_zero,List.set_cons_succ]at HB4
 have c2:=blk_cell HB3.r3 (k:=2) rfl
 have f2:=blk_free (k:=2) HB3.r3
 have e2:=blk_cell HB4.r3 (k:=2) rfl
 replace HB4:=Lh HB4
 clear hS3 hX3 HB2 HB3
 go_wp2_with fail
 clear c2 f2
 refine(efold_any nm hnml HN.out.2.2.1 w4 (HH.out.tb w4 HB4.out.x).tabs (HH.out.tb w4 HB4.out.x).af).mono ?_
 rintro e1 w5 ⟨rfl,hE5⟩
 have HB5:=Lh (HB4.out.ext hE5)
 clear e2
 have e2:=blk_cell HB5.out.r3 (k:=2) rfl
 clear hE5 HB4
 go_wp2_with fail
 clear e2
 refine(blanks_any (HB5.out.sb HH.out (by omega)) (by omega)).mono ?_
 rintro e1 w6 ⟨rfl,hS6,hX6⟩
 rw[HN.out.2.2.2]at hS6⊢
 have HB6:=Lh (HB5.out.call hS6.blk hX6)
 clear hS6 hX6 HB5
 rcases HCS.out with⟨rfl,rfl,hd,rfl⟩ | ⟨hb0,hd,hx,h13,rfl⟩
 ·
  have HD:=Lh hd
  clear hd HCS
  go_wp2_with fail
  refine(eat_any (HB6.out.sb HH.out (by omega)) [63,62] rr HD.out (by simp)).mono ?_
  rintro e1 w7 ⟨rfl,hS7,hX7⟩
  have HB7:=Lh (HB6.out.call hS7.blk hX7)
  have hle:=hS7.hi
  clear hS7 hX7 HB6
  have hT:=HB7.out
  have c0:=blk_cell hT.r3 (k:=0) rfl;have c1:=blk_cell hT.r3 (k:=1) rfl;have c2:=blk_cell hT.r3 (k:=2) rfl;have c3:=blk_cell hT.r3 (k:=3) rfl;have c4:=blk_cell hT.r3 (k:=4) rfl
  have d0:=blk_cell hT.r2 (k:=0) rfl;have d1:=blk_cell hT.r2 (k:=1) rfl;have d2:=blk_cell hT.r2 (k:=2) rfl;have d3:=blk_cell hT.r2 (k:=3) rfl;have d4:=blk_cell hT.r2 (k:=4) rfl
  have f0:=blk_free (k:=0) hT.r2;have f1:=blk_free (k:=1) hT.r2;have f2:=blk_free (k:=2) hT.r2;have f3:=blk_free (k:=3) hT.r2;have f4:=blk_free (k:=4) hT.r2
  obtain⟨w9,hw9⟩:∃X,((((w7.setCell ⟨r,0,none⟩ (.int .i64 7)).setCell ⟨r,1,none⟩ (.int .i64 (i:Nat))).setCell ⟨r,2,none⟩ (.string (bs nm))).setCell ⟨r,3,none⟩ (.string ⟨#[]⟩)).setCell ⟨r,4,none⟩ (.slice none 0 0)=X:=⟨_,rfl⟩
  have hb9:=st5t_blk hT.r2 (.int .i64 7) (.int .i64 (i:Nat)) (.string (bs nm)) (.string ⟨#[]⟩) (.slice none 0 0)
  have hx9:=hT.st (.int .i64 7) (.int .i64 (i:Nat)) (.string (bs nm)) (.string ⟨#[]⟩) (.slice none 0 0)
  unfold st5t at hb9 hx9
  rw[hw9]at hb9 hx9
  have HZ9:=Lh (And.intro hb9 hx9)
  clear hb9 hx9
  clear hT
  go_wp2_with fail
  refine bodyPost_ret (res_one rfl _ _ _ ⟨r,0,none⟩ ?_ (load_tok HZ9.out.1)) rfl ?_
  ·
   first | rfl | simp
  clear hw9
  have hX9:=HZ9.out.2
  exact⟨rfl,HH.out.exc hX9.1 hX9.2.1 hle,hX9.1⟩
 ·
  have hbt:decide (0< b)=true:=decide_eq_true hb0
  have HD:=Lh (And.intro hd (And.intro hx h13))
  have htl:=congrArg List.length hd
  simp only[List.length_drop,List.length_append,List.length_cons]at htl
  have htx:tx.length≤65536:=by omega
  clear hd hx h13 HCS
  go_wp2_with fail
  refine(upto_any (HB6.out.sb HH.out (by omega)) [63,62] tx rr (by simp) (by rw[HD.out.1];simp) HD.out.2.1).mono ?_
  rintro e1 w7 ⟨rfl,hS7,hX7⟩
  have hle:=hS7.hi
  have HB7:=Lh (HB6.out.call hS7.blk hX7)
  have HMX:=Lh (HH.out.tb w7 HB7.out.x).mx
  clear hS7 hX7 HB6
  go_wp2_with fail
  refine(lines_any tx htx HD.out.2.2 w7 HMX.out).mono ?_
  rintro e1 w8 ⟨rfl,rfl⟩
  obtain⟨wA,hwA⟩:∃X,w8.setCell ⟨r+1,3,none⟩ (.string (bs tx))=X:=⟨_,rfl⟩
  have HB8:=HB7.out.set 3 (.string (bs tx))
  rw[hwA]at HB8
  simp only[List.setIfInBounds_toArray,List.set_cons_zero,List.set_cons_succ]at HB8
  have c2:=blk_cell HB7.out.r3 (k:=3) rfl
  have f2:=blk_free (k:=3) HB7.out.r3
  replace HB8:=Lh HB8
  have k2:=c2;have k3:=f2
  clear c2 f2 HB7
  have hT:=HB8.out
  have c0:=blk_cell hT.r3 (k:=0) rfl;have c1:=blk_cell hT.r3 (k:=1) rfl;have c2:=blk_cell hT.r3 (k:=2) rfl;have c3:=blk_cell hT.r3 (k:=3) rfl;have c4:=blk_cell hT.r3 (k:=4) rfl
  have d0:=blk_cell hT.r2 (k:=0) rfl;have d1:=blk_cell hT.r2 (k:=1) rfl;have d2:=blk_cell hT.r2 (k:=2) rfl;have d3:=blk_cell hT.r2 (k:=3) rfl;have d4:=blk_cell hT.r2 (k:=4) rfl
  have f0:=blk_free (k:=0) hT.r2;have f1:=blk_free (k:=1) hT.r2;have f2:=blk_free (k:=2) hT.r2;have f3:=blk_free (k:=3) hT.r2;have f4:=blk_free (k:=4) hT.r2
  obtain⟨w9,hw9⟩:∃X,((((wA.setCell ⟨r,0,none⟩ (.int .i64 7)).setCell ⟨r,1,none⟩ (.int .i64 (i:Nat))).setCell ⟨r,2,none⟩ (.string (bs nm))).setCell ⟨r,3,none⟩ (.string (bs tx))).setCell ⟨r,4,none⟩ (.slice none 0 0)=X:=⟨_,rfl⟩
  have hb9:=st5t_blk hT.r2 (.int .i64 7) (.int .i64 (i:Nat)) (.string (bs nm)) (.string (bs tx)) (.slice none 0 0)
  have hx9:=hT.st (.int .i64 7) (.int .i64 (i:Nat)) (.string (bs nm)) (.string (bs tx)) (.slice none 0 0)
  unfold st5t at hb9 hx9
  rw[hw9]at hb9 hx9
  have HZ9:=Lh (And.intro hb9 hx9)
  clear hb9 hx9
  clear hT
  go_wp2_with fail
  refine bodyPost_ret (res_one rfl _ _ _ ⟨r,0,none⟩ ?_ (load_tok HZ9.out.1)) rfl ?_
  ·
   first | rfl | simp
  clear hw9
  have hX9:=HZ9.out.2
  exact⟨rfl,HH.out.exc hX9.1 hX9.2.1 hle,hX9.1⟩
end
structure TokX where
 kind:Int
 at':Nat
 name:Bytes
 text:Bytes
 attrs:List Attr
def tkC (t:TokX):List DV:= [intD t.kind,intD t.at',strD t.name,strD t.text,attrsD t.attrs]
def tksD (l:List TokX):DV:= .s 5 (l.flatMap tkC)
theorem z_tk (t:TokX):(tkC t).length=5:=rfl
def TokR (s:Bytes) (p:Nat) (t:TokX) (e:Nat):Prop:=
 (∃y v r,s.drop p=y++60::r∧v≠ []∧PcR plC y v∧t=⟨4,p,[],v,[]⟩∧e=p+y.length)∨
 (∃nm r,s.drop p=60::47::r∧EndR s p nm e∧t=⟨3,p,nm,[],[]⟩)∨
 (∃c r n k B,s.drop p=60::c::r∧c≠33∧c≠63∧c≠47∧nameS (s.drop (p+1))=n∧0< n∧TagR s (p+1+n) [] k B e∧t=⟨k,p,(s.drop (p+1)).take n,[],B⟩)∨
 (∃tx,CmR s p tx e∧t=⟨6,p,[],tx,[]⟩)∨
 ∃nm tx r,s.drop p=60::63::r∧PiR s p nm tx e∧t=⟨7,p,nm,tx,[]⟩
theorem TokR.lt {s:Bytes} {p:Nat} {t:TokX} {e:Nat} (h:TokR s p t e):p< s.length:=by
 rcases h with⟨y,v,r,h,h2,_⟩ | ⟨nm,r,h,_⟩ | ⟨c,r,n,k,B,h,_⟩ | ⟨tx,⟨r,h,_⟩,_⟩ | ⟨nm,tx,r,h,_⟩
 ·
  have:=congrArg List.length h
  simp only[List.length_drop,List.length_append,List.length_cons]at this
  omega
 all_goals exact drop_lt h
section
variable {g r:Nat} {W W' w w':World} {s:Bytes} {i j p e:Nat} {bv ov:Value}
theorem st5t_keep (w:World) (r:Nat) (a0 a1 a2 a3 a4:Value):(∀b,b≠r→(st5t w r a0 a1 a2 a3 a4).heap[b]? =w.heap[b]?)∧(∀(g:Nat) (W:World),W.heap.size≤r→Exc g W w→Exc g W (st5t w r a0 a1 a2 a3 a4)):=by
 refine⟨fun b hb=> ?_,fun g W hr h=> ?_⟩
 ·
  unfold st5t
  rw[Below.heap_setCell _ _ _ _ (by simpa using hb),Below.heap_setCell _ _ _ _ (by simpa using hb),Below.heap_setCell _ _ _ _ (by simpa using hb),Below.heap_setCell _ _ _ _ (by simpa using hb),Below.heap_setCell _ _ _ _ (by simpa using hb)]
 ·
  unfold st5t
  exact((((h.new hr 0 a0).new hr 1 a1).new hr 2 a2).new hr 3 a3).new hr 4 a4
theorem token_any (h:SB g W s p bv ov) (t:TokX) (hT:TokR s p t e):Calls Tryz.prog 105 #[.pointer (some ⟨g,0,none⟩)] W (TkRet g W s e bv ov t.kind t.at' t.name t.text t.attrs):=by
 have hps:=hT.lt
 obtain⟨bb,off,bc,rfl,hcap,hbc⟩:=h.slice (by omega)
 have hl:=h.hl
 have hlt:=h.lt
 obtain⟨w1,hw1⟩:∃X,W.alloc (.cells #[.int .i64 0,.int .i64 0,.string ⟨#[]⟩,.string ⟨#[]⟩,.slice none 0 0] 75)=X:=⟨_,rfl⟩
 have hE1:Ext W w1:=by rw[←hw1];exact(Ext.refl W).alloc _
 obtain⟨r,hr⟩:∃r,W.heap.size=r:=⟨_,rfl⟩
 have hb1:w1.heap[r]? =some (.cells #[.int .i64 0,.int .i64 0,.string ⟨#[]⟩,.string ⟨#[]⟩,.slice none 0 0] 75 (0,0)):=by rw[←hw1,←hr];exact Array.getElem?_push_size ..
 have hS1:=h.ext hE1
 have c0:=hS1.c0;have c1:=hS1.c1
 obtain⟨hbl,cm⟩:=hS1.byte hps
 have HH:=Lh (And.intro hE1 (And.intro hb1 hS1))
 have hgr:g< r:=by omega
 -- what is to be shown behind the call that reads the token
 have HF:=Lh (show∀(w2 w3 w9:World) (va:Value),Exc g W w2→w2.heap[r]? =some (.cells #[.int .i64 0,.int .i64 0,.string ⟨#[]⟩,.string ⟨#[]⟩,.slice none 0 0] 75 (0,0))→Exc g w2 w3→SB g w3 s e (.slice (some ⟨bb,off,none⟩) s.length bc) ov→Rep w3 (fun b=>w2.heap.size≤b) va (attrsD t.attrs)→(∀b,b≠r→w9.heap[b]? =w3.heap[b]?)→(∀W:World,W.heap.size≤r→Exc g W w3→Exc g W w9)→
   Rep w9 (fun b=>W.heap.size≤b) va (attrsD t.attrs)∧SB g w9 s e (.slice (some ⟨bb,off,none⟩) s.length bc) ov∧Exc g W w9 from fun w2 w3 w9 va h1 h2 h3 h4 h5 h6 h7=>by
  have hs:=blk_lt h2
  have hX:=h7 W (by omega) (h1.trans h3)
  refine⟨(h5.kept fun b hb _=>h6 b (by omega)).ok fun b hb=>by omega,h.exc hX ((h6 g (by omega)).trans h4.blk) h4.hi,hX⟩)
 clear hE1 hb1 hS1 h
 rcases hT with⟨y,v,rr,hd,hv0,hv,rfl,rfl⟩ | ⟨nm,rr,hd,hE,rfl⟩ | ⟨c,rr,n,k,B,hd,h33,h63,h47,hn,hn0,hG,rfl⟩ | ⟨tx,hC,rfl⟩ | ⟨nm,tx,rr,hd,hC,rfl⟩
 ·
  obtain⟨c,y',hy,hc60⟩:∃c y',y=c::y'∧(c !=60)=true:=by
   rcases hv.inv with⟨_,e⟩ | ⟨c,y2,v2,e,_,hc,_⟩ | ⟨nm,c,y2,v2,e,_,_,_⟩
   ·
    exact absurd e hv0
   ·
    simp only[plC,Bool.and_eq_true]at hc;exact⟨c,y2,e,hc.1.1.1⟩
   ·
    exact⟨38,_,e,by decide⟩
  have hsp:s[p]'hps=c:=drop_byte (r:=y'++60::rr) (by rw[hd,hy];rfl)
  obtain⟨x,hx⟩:∃x:Nat,c.toNat=x:=⟨_,rfl⟩
  have x60:((x:Int)==60)=false:=by rw[←hx];exact u8_ne (k:=60) (by decide) hc60
  have x60':((x:Int) !=60)=true:=by unfold bne;rw[x60];rfl
  rw[hsp,hx]at cm
  have HD:=Lh (And.intro hd hv)
  clear hd hv hsp hc60 hx hv0 hy
  go_enter Tryz.func105,Tryz.ntmps105
  go_wp2_with fail
  go_quiet (fail)
  obtain⟨w2,hw2⟩:∃w,w1.drewN nq=w:=⟨_,rfl⟩
  have Ehw2:Ext w1 w2:=by rw[←hw2];exact(Ext.refl w1).drewN _
  rw[hw2]
  have hX2:=Exc.of g (HH.out.1.trans Ehw2)
  have hb2:=(Below.block Ehw2 r (blk_lt HH.out.2.1)).trans HH.out.2.1
  have hS2:=HH.out.2.2.ext Ehw2
  clear hw2 c0 c1 cm hbl hw1
  go_wp2_with fail
  try rw[hr]
  refine(xchars_any hS2 y v rr HD.out.1 HD.out.2).mono ?_
  rintro e w3 ⟨rfl,hS3,hX3⟩
  have hb3:=(hX3.2 r (by omega) (blk_lt hb2)).trans hb2
  have d0:=blk_cell hb3 (k:=0) rfl;have d1:=blk_cell hb3 (k:=1) rfl;have d2:=blk_cell hb3 (k:=2) rfl;have d3:=blk_cell hb3 (k:=3) rfl;have d4:=blk_cell hb3 (k:=4) rfl
  have f0:=blk_free (k:=0) hb3;have f1:=blk_free (k:=1) hb3;have f2:=blk_free (k:=2) hb3;have f3:=blk_free (k:=3) hb3;have f4:=blk_free (k:=4) hb3
  obtain⟨w9,hw9⟩:∃X,((((w3.setCell ⟨r,0,none⟩ (.int .i64 4)).setCell ⟨r,1,none⟩ (.int .i64 (p:Nat))).setCell ⟨r,2,none⟩ (.string ⟨#[]⟩)).setCell ⟨r,3,none⟩ (.string (bs v))).setCell ⟨r,4,none⟩ (.slice none 0 0)=X:=⟨_,rfl⟩
  have hb9:=st5t_blk hb3 (.int .i64 4) (.int .i64 (p:Nat)) (.string ⟨#[]⟩) (.string (bs v)) (.slice none 0 0)
  have hk9:=st5t_keep w3 r (.int .i64 4) (.int .i64 (p:Nat)) (.string ⟨#[]⟩) (.string (bs v)) (.slice none 0 0)
  unfold st5t at hb9 hk9
  rw[hw9]at hb9 hk9
  have HZ9:=Lh (And.intro hb9 (HF.out w2 w3 w9 (.slice none 0 0) hX2 hb2 hX3 hS3 (.nil 2) hk9.1 (hk9.2 g)))
  clear hb9 hk9 hb3 hX3 hS3 hb2 hX2 hS2 HF
  go_wp2_with fail
  refine bodyPost_ret (res_one rfl _ _ _ ⟨r,0,none⟩ ?_ (load_tok HZ9.out.1)) rfl ?_
  ·
   first | rfl | simp
  clear hw9
  exact⟨_,rfl,HZ9.out.2⟩
 ·
  have hsp:s[p]'hps=60:=drop_byte hd
  rw[hsp]at cm
  replace cm:w1.cell? ⟨bb,off+p,none⟩=some (.int .u8 60):=cm
  have HD:=Lh (And.intro hd hE)
  clear hd hE hsp
  go_enter Tryz.func105,Tryz.ntmps105
  go_wp2_with fail
  go_quiet (fail)
  obtain⟨w2,hw2⟩:∃w,w1.drewN nq=w:=⟨_,rfl⟩
  have Ehw2:Ext w1 w2:=by rw[←hw2];exact(Ext.refl w1).drewN _
  rw[hw2]
  have hX2:=Exc.of g (HH.out.1.trans Ehw2)
  have hb2:=(Below.block Ehw2 r (blk_lt HH.out.2.1)).trans HH.out.2.1
  have hS2:=HH.out.2.2.ext Ehw2
  clear hw2 c0 c1 cm hbl hw1
  go_wp2_with fail
  try rw[hr]
  refine(has_any hS2 hps [60,33] (by simp)).mono ?_
  rintro e1 w2 ⟨rfl,hEh⟩
  rw[show hasS (s.drop p) [60,33]=false by rw[HD.out.1];rfl]
  replace hX2:=hX2.ext hEh
  replace hb2:=(Below.block hEh r (blk_lt hb2)).trans hb2
  replace hS2:=hS2.ext hEh
  clear hEh
  go_wp2_with fail
  refine(has_any hS2 hps [60,63] (by simp)).mono ?_
  rintro e1 w2 ⟨rfl,hEh⟩
  rw[show hasS (s.drop p) [60,63]=false by rw[HD.out.1];rfl]
  replace hX2:=hX2.ext hEh
  replace hb2:=(Below.block hEh r (blk_lt hb2)).trans hb2
  replace hS2:=hS2.ext hEh
  clear hEh
  go_wp2_with fail
  refine(has_any hS2 hps [60,47] (by simp)).mono ?_
  rintro e1 w2 ⟨rfl,hEh⟩
  rw[show hasS (s.drop p) [60,47]=true by rw[HD.out.1];rfl]
  replace hX2:=hX2.ext hEh
  replace hb2:=(Below.block hEh r (blk_lt hb2)).trans hb2
  replace hS2:=hS2.ext hEh
  clear hEh
  go_wp2_with fail
  refine(end_any hS2 nm e HD.out.2).mono ?_
  rintro e1 w3 ⟨rfl,hS3,hX3⟩
  have hb3:=(hX3.2 r (by omega) (blk_lt hb2)).trans hb2
  have d0:=blk_cell hb3 (k:=0) rfl;have d1:=blk_cell hb3 (k:=1) rfl;have d2:=blk_cell hb3 (k:=2) rfl;have d3:=blk_cell hb3 (k:=3) rfl;have d4:=blk_cell hb3 (k:=4) rfl
  have f0:=blk_free (k:=0) hb3;have f1:=blk_free (k:=1) hb3;have f2:=blk_free (k:=2) hb3;have f3:=blk_free (k:=3) hb3;have f4:=blk_free (k:=4) hb3
  obtain⟨w9,hw9⟩:∃X,((((w3.setCell ⟨r,0,none⟩ (.int .i64 3)).setCell ⟨r,1,none⟩ (.int .i64 (p:Nat))).setCell ⟨r,2,none⟩ (.string (bs nm))).setCell ⟨r,3,none⟩ (.string ⟨#[]⟩)).setCell ⟨r,4,none⟩ (.slice none 0 0)=X:=⟨_,rfl⟩
  have hb9:=st5t_blk hb3 (.int .i64 3) (.int .i64 (p:Nat)) (.string (bs nm)) (.string ⟨#[]⟩) (.slice none 0 0)
  have hk9:=st5t_keep w3 r (.int .i64 3) (.int .i64 (p:Nat)) (.string (bs nm)) (.string ⟨#[]⟩) (.slice none 0 0)
  unfold st5t at hb9 hk9
  rw[hw9]at hb9 hk9
  have HZ9:=Lh (And.intro hb9 (HF.out w2 w3 w9 (.slice none 0 0) hX2 hb2 hX3 hS3 (.nil 2) hk9.1 (hk9.2 g)))
  clear hb9 hk9 hb3 hX3 hS3 hb2 hX2 hS2 HF
  go_wp2_with fail
  refine bodyPost_ret (res_one rfl _ _ _ ⟨r,0,none⟩ ?_ (load_tok HZ9.out.1)) rfl ?_
  ·
   first | rfl | simp
  clear hw9
  exact⟨_,rfl,HZ9.out.2⟩
 ·
  have hsp:s[p]'hps=60:=drop_byte hd
  rw[hsp]at cm
  replace cm:w1.cell? ⟨bb,off+p,none⟩=some (.int .u8 60):=cm
  have HD:=Lh (And.intro hd (And.intro hn (And.intro hn0 (And.intro hG (And.intro h33 (And.intro h63 h47))))))
  obtain⟨nm,hnm⟩:∃x,(s.drop (p+1)).take n=x:=⟨_,rfl⟩
  rw[hnm]at HF⊢
  have HNM:=Lh hnm
  clear hd hn hn0 hG hsp h33 h63 h47 hnm
  go_enter Tryz.func105,Tryz.ntmps105
  go_wp2_with fail
  go_quiet (fail)
  obtain⟨w2,hw2⟩:∃w,w1.drewN nq=w:=⟨_,rfl⟩
  have Ehw2:Ext w1 w2:=by rw[←hw2];exact(Ext.refl w1).drewN _
  rw[hw2]
  have hX2:=Exc.of g (HH.out.1.trans Ehw2)
  have hb2:=(Below.block Ehw2 r (blk_lt HH.out.2.1)).trans HH.out.2.1
  have hS2:=HH.out.2.2.ext Ehw2
  clear hw2 c0 c1 cm hbl hw1
  go_wp2_with fail
  try rw[hr]
  refine(has_any hS2 hps [60,33] (by simp)).mono ?_
  rintro e1 w2 ⟨rfl,hEh⟩
  rw[show hasS (s.drop p) [60,33]=false by rw[HD.out.1];simp[hasS,List.isPrefixOf];exact fun e=>HD.out.2.2.2.2.1 e.symm]
  replace hX2:=hX2.ext hEh
  replace hb2:=(Below.block hEh r (blk_lt hb2)).trans hb2
  replace hS2:=hS2.ext hEh
  clear hEh
  go_wp2_with fail
  refine(has_any hS2 hps [60,63] (by simp)).mono ?_
  rintro e1 w2 ⟨rfl,hEh⟩
  rw[show hasS (s.drop p) [60,63]=false by rw[HD.out.1];simp[hasS,List.isPrefixOf];exact fun e=>HD.out.2.2.2.2.2.1 e.symm]
  replace hX2:=hX2.ext hEh
  replace hb2:=(Below.block hEh r (blk_lt hb2)).trans hb2
  replace hS2:=hS2.ext hEh
  clear hEh
  go_wp2_with fail
  refine(has_any hS2 hps [60,47] (by simp)).mono ?_
  rintro e1 w2 ⟨rfl,hEh⟩
  rw[show hasS (s.drop p) [60,47]=false by rw[HD.out.1];simp[hasS,List.isPrefixOf];exact fun e=>HD.out.2.2.2.2.2.2 e.symm]
  replace hX2:=hX2.ext hEh
  replace hb2:=(Below.block hEh r (blk_lt hb2)).trans hb2
  replace hS2:=hS2.ext hEh
  clear hEh
  go_wp2_with fail
  refine(tag_any hS2 n nm k B e HD.out.2.1 HD.out.2.2.1 HNM.out.symm HD.out.2.2.2.1).mono ?_
  rintro e1 w3 ⟨va,rfl,hva,hS3,hX3⟩
  obtain⟨xa,xc,rfl,_,_⟩:=hva.count z_attr (by omega)
  have hb3:=(hX3.2 r (by omega) (blk_lt hb2)).trans hb2
  have d0:=blk_cell hb3 (k:=0) rfl;have d1:=blk_cell hb3 (k:=1) rfl;have d2:=blk_cell hb3 (k:=2) rfl;have d3:=blk_cell hb3 (k:=3) rfl;have d4:=blk_cell hb3 (k:=4) rfl
  have f0:=blk_free (k:=0) hb3;have f1:=blk_free (k:=1) hb3;have f2:=blk_free (k:=2) hb3;have f3:=blk_free (k:=3) hb3;have f4:=blk_free (k:=4) hb3
  obtain⟨w9,hw9⟩:∃X,((((w3.setCell ⟨r,0,none⟩ (.int .i64 k)).setCell ⟨r,1,none⟩ (.int .i64 (p:Nat))).setCell ⟨r,2,none⟩ (.string (bs nm))).setCell ⟨r,3,none⟩ (.string (bs []))).setCell ⟨r,4,none⟩ (.slice xa B.length xc)=X:=⟨_,rfl⟩
  have hb9:=st5t_blk hb3 (.int .i64 k) (.int .i64 (p:Nat)) (.string (bs nm)) (.string (bs [])) (.slice xa B.length xc)
  have hk9:=st5t_keep w3 r (.int .i64 k) (.int .i64 (p:Nat)) (.string (bs nm)) (.string (bs [])) (.slice xa B.length xc)
  unfold st5t at hb9 hk9
  rw[hw9]at hb9 hk9
  have HZ9:=Lh (And.intro hb9 (HF.out w2 w3 w9 _ hX2 hb2 hX3 hS3 hva hk9.1 (hk9.2 g)))
  clear hb9 hk9 hb3 hX3 hS3 hb2 hX2 hS2 HF hva
  go_wp2_with fail
  refine bodyPost_ret (res_one rfl _ _ _ ⟨r,0,none⟩ ?_ (load_tok HZ9.out.1)) rfl ?_
  ·
   first | rfl | simp
  clear hw9
  exact⟨_,rfl,HZ9.out.2⟩
 ·
  obtain⟨rr,hd,hC2⟩:=hC
  have hC:CmR s p tx e:=⟨rr,hd,hC2⟩
  have hsp:s[p]'hps=60:=drop_byte hd
  rw[hsp]at cm
  replace cm:w1.cell? ⟨bb,off+p,none⟩=some (.int .u8 60):=cm
  have HD:=Lh (And.intro hd hC)
  clear hd hC hsp hC2
  go_enter Tryz.func105,Tryz.ntmps105
  go_wp2_with fail
  go_quiet (fail)
  obtain⟨w2,hw2⟩:∃w,w1.drewN nq=w:=⟨_,rfl⟩
  have Ehw2:Ext w1 w2:=by rw[←hw2];exact(Ext.refl w1).drewN _
  rw[hw2]
  have hX2:=Exc.of g (HH.out.1.trans Ehw2)
  have hb2:=(Below.block Ehw2 r (blk_lt HH.out.2.1)).trans HH.out.2.1
  have hS2:=HH.out.2.2.ext Ehw2
  clear hw2 c0 c1 cm hbl hw1
  go_wp2_with fail
  try rw[hr]
  refine(has_any hS2 hps [60,33] (by simp)).mono ?_
  rintro e1 w2 ⟨rfl,hEh⟩
  rw[show hasS (s.drop p) [60,33]=true by rw[HD.out.1];rfl]
  replace hX2:=hX2.ext hEh
  replace hb2:=(Below.block hEh r (blk_lt hb2)).trans hb2
  replace hS2:=hS2.ext hEh
  clear hEh
  go_wp2_with fail
  refine(mark_any hS2 tx e HD.out.2).mono ?_
  rintro e1 w3 ⟨rfl,hS3,hX3⟩
  have hb3:=(hX3.2 r (by omega) (blk_lt hb2)).trans hb2
  have d0:=blk_cell hb3 (k:=0) rfl;have d1:=blk_cell hb3 (k:=1) rfl;have d2:=blk_cell hb3 (k:=2) rfl;have d3:=blk_cell hb3 (k:=3) rfl;have d4:=blk_cell hb3 (k:=4) rfl
  have f0:=blk_free (k:=0) hb3;have f1:=blk_free (k:=1) hb3;have f2:=blk_free (k:=2) hb3;have f3:=blk_free (k:=3) hb3;have f4:=blk_free (k:=4) hb3
  obtain⟨w9,hw9⟩:∃X,((((w3.setCell ⟨r,0,none⟩ (.int .i64 6)).setCell ⟨r,1,none⟩ (.int .i64 (p:Nat))).setCell ⟨r,2,none⟩ (.string ⟨#[]⟩)).setCell ⟨r,3,none⟩ (.string (bs tx))).setCell ⟨r,4,none⟩ (.slice none 0 0)=X:=⟨_,rfl⟩
  have hb9:=st5t_blk hb3 (.int .i64 6) (.int .i64 (p:Nat)) (.string ⟨#[]⟩) (.string (bs tx)) (.slice none 0 0)
  have hk9:=st5t_keep w3 r (.int .i64 6) (.int .i64 (p:Nat)) (.string ⟨#[]⟩) (.string (bs tx)) (.slice none 0 0)
  unfold st5t at hb9 hk9
  rw[hw9]at hb9 hk9
  have HZ9:=Lh (And.intro hb9 (HF.out w2 w3 w9 (.slice none 0 0) hX2 hb2 hX3 hS3 (.nil 2) hk9.1 (hk9.2 g)))
  clear hb9 hk9 hb3 hX3 hS3 hb2 hX2 hS2 HF
  go_wp2_with fail
  refine bodyPost_ret (res_one rfl _ _ _ ⟨r,0,none⟩ ?_ (load_tok HZ9.out.1)) rfl ?_
  ·
   first | rfl | simp
  clear hw9
  exact⟨_,rfl,HZ9.out.2⟩
 ·
  have hsp:s[p]'hps=60:=drop_byte hd
  rw[hsp]at cm
  replace cm:w1.cell? ⟨bb,off+p,none⟩=some (.int .u8 60):=cm
  have HD:=Lh (And.intro hd hC)
  clear hd hC hsp
  go_enter Tryz.func105,Tryz.ntmps105
  go_wp2_with fail
  go_quiet (fail)
  obtain⟨w2,hw2⟩:∃w,w1.drewN nq=w:=⟨_,rfl⟩
  have Ehw2:Ext w1 w2:=by rw[←hw2];exact(Ext.refl w1).drewN _
  rw[hw2]
  have hX2:=Exc.of g (HH.out.1.trans Ehw2)
  have hb2:=(Below.block Ehw2 r (blk_lt HH.out.2.1)).trans HH.out.2.1
  have hS2:=HH.out.2.2.ext Ehw2
  clear hw2 c0 c1 cm hbl hw1
  go_wp2_with fail
  try rw[hr]
  refine(has_any hS2 hps [60,33] (by simp)).mono ?_
  rintro e1 w2 ⟨rfl,hEh⟩
  rw[show hasS (s.drop p) [60,33]=false by rw[HD.out.1];rfl]
  replace hX2:=hX2.ext hEh
  replace hb2:=(Below.block hEh r (blk_lt hb2)).trans hb2
  replace hS2:=hS2.ext hEh
  clear hEh
  go_wp2_with fail
  refine(has_any hS2 hps [60,63] (by simp)).mono ?_
  rintro e1 w2 ⟨rfl,hEh⟩
  rw[show hasS (s.drop p) [60,63]=true by rw[HD.out.1];rfl]
  replace hX2:=hX2.ext hEh
  replace hb2:=(Below.block hEh r (blk_lt hb2)).trans hb2
  replace hS2:=hS2.ext hEh
  clear hEh
  go_wp2_with fail
  refine(instruction_any hS2 nm tx e HD.out.2).mono ?_
  rintro e1 w3 ⟨rfl,hS3,hX3⟩
  have hb3:=(hX3.2 r (by omega) (blk_lt hb2)).trans hb2
  have d0:=blk_cell hb3 (k:=0) rfl;have d1:=blk_cell hb3 (k:=1) rfl;have d2:=blk_cell hb3 (k:=2) rfl;have d3:=blk_cell hb3 (k:=3) rfl;have d4:=blk_cell hb3 (k:=4) rfl
  have f0:=blk_free (k:=0) hb3;have f1:=blk_free (k:=1) hb3;have f2:=blk_free (k:=2) hb3;have f3:=blk_free (k:=3) hb3;have f4:=blk_free (k:=4) hb3
  obtain⟨w9,hw9⟩:∃X,((((w3.setCell ⟨r,0,none⟩ (.int .i64 7)).setCell ⟨r,1,none⟩ (.int .i64 (p:Nat))).setCell ⟨r,2,none⟩ (.string (bs nm))).setCell ⟨r,3,none⟩ (.string (bs tx))).setCell ⟨r,4,none⟩ (.slice none 0 0)=X:=⟨_,rfl⟩
  have hb9:=st5t_blk hb3 (.int .i64 7) (.int .i64 (p:Nat)) (.string (bs nm)) (.string (bs tx)) (.slice none 0 0)
  have hk9:=st5t_keep w3 r (.int .i64 7) (.int .i64 (p:Nat)) (.string (bs nm)) (.string (bs tx)) (.slice none 0 0)
  unfold st5t at hb9 hk9
  rw[hw9]at hb9 hk9
  have HZ9:=Lh (And.intro hb9 (HF.out w2 w3 w9 (.slice none 0 0) hX2 hb2 hX3 hS3 (.nil 2) hk9.1 (hk9.2 g)))
  clear hb9 hk9 hb3 hX3 hS3 hb2 hX2 hS2 HF
  go_wp2_with fail
  refine bodyPost_ret (res_one rfl _ _ _ ⟨r,0,none⟩ ?_ (load_tok HZ9.out.1)) rfl ?_
  ·
   first | rfl | simp
  clear hw9
  exact⟨_,rfl,HZ9.out.2⟩
theorem decl_any (h:SB g W s i bv ov) (hi:i< s.length) (hd:hasS (s.drop i) [60,63,120,109,108]=false):Calls Tryz.prog 104 #[.pointer (some ⟨g,0,none⟩)] W fun e w'=>e= .returned (.tuple #[])∧Ext W w':=by
 obtain⟨bb,off,bc,rfl,hcap,hbc⟩:=h.slice (by omega)
 have hlt:=h.lt
 have hl:=h.hl
 have c0:=h.c0
 have c1:=h.c1
 obtain⟨wz,hwz⟩:∃wz,wz=W:=⟨_,rfl⟩
 subst hwz
 have HD:=Lh (show∀W',Ext wz W'→Calls Tryz.prog 148 #[.pointer (some ⟨g,0,none⟩),.string (bs [60,63,120,109,108])] W' fun e w'=>e= .returned (.bool false)∧Ext W' w' from fun W' hE=>by rw[←hd];exact has_any (h.ext hE) hi _ (by simp))
 clear h hd
 go_enter Tryz.func104,Tryz.ntmps104
 go_wp2_with fail
 refine rg_begin (S:=Sx wz) (by kernel_rfl) (Sx.begin _) ?_
 have hS:Sx wz (World.drew wz):=(Sx.begin _)
 refine rg_t 0 (some 2) (.pointer (some ⟨g,0,none⟩)) rfl hS (fun w' hs=>by rfl) ?_
 simp only[Act.put,sA,sZ,sS]
 refine rg_call 1 (some 3) 148 #[.pointer (some ⟨g,0,none⟩),.string {data:= #[60,63,120,109,108]}] rfl rfl (by kernel_rfl) (by rfl) (fun w'=>by first | rfl | go_simp) (R:=fun v w'=>v= .bool false∧Ext (World.drew wz) w') ?_ ?_
 ·
  refine(HD.out (World.drew wz) (show Ext wz (World.drew wz) from hS)).mono ?_
  rintro e w' ⟨rfl,h⟩
  exact⟨_,rfl,rfl,h⟩
 rintro _ wr1 ⟨rfl,hBr1⟩
 have hS1:=hS.ext hBr1
 refine⟨hS1,?_⟩
 simp only[Act.put,sA,sZ,sS]
 refine rg_t 2 (some 4) (.bool true) rfl hS1 (fun w' hs=>by first | rfl | go_simp) ?_
 simp only[Act.put,sA,sZ,sS]
 refine rg_t 3 (some 5) (.bool true) rfl hS1 (fun w' hs=>by rfl) ?_
 simp only[Act.put,sA,sZ,sS]
 refine rg_s 4 (some 6) rfl hS1 ?_
 simp only[Act.put,sA,sZ,sS]
 refine rg_s 5 (some 7) rfl hS1 ?_
 simp only[Act.put,sA,sZ,sS]
 refine rg_s 6 (some 8) rfl hS1 ?_
 simp only[Act.put,sA,sZ,sS]
 refine rg_s 7 (some 9) rfl hS1 ?_
 simp only[Act.put,sA,sZ,sS]
 refine rg_s 8 (some 10) rfl hS1 ?_
 simp only[Act.put,sA,sZ,sS]
 refine rg_s 9 (some 11) rfl hS1 ?_
 simp only[Act.put,sA,sZ,sS]
 refine rg_s 10 (some 12) rfl hS1 ?_
 simp only[Act.put,sA,sZ,sS]
 refine rg_s 11 (some 13) rfl hS1 ?_
 simp only[Act.put,sA,sZ,sS]
 refine rg_s 12 (some 14) rfl hS1 ?_
 simp only[Act.put,sA,sZ,sS]
 refine rg_s 13 (some 15) rfl hS1 ?_
 simp only[Act.put,sA,sZ,sS]
 refine rg_s 14 (some 16) rfl hS1 ?_
 simp only[Act.put,sA,sZ,sS]
 refine rg_s 15 (some 17) rfl hS1 ?_
 simp only[Act.put,sA,sZ,sS]
 refine rg_s 16 (some 18) rfl hS1 ?_
 simp only[Act.put,sA,sZ,sS]
 refine rg_s 17 (some 19) rfl hS1 ?_
 simp only[Act.put,sA,sZ,sS]
 refine rg_s 18 (some 20) rfl hS1 ?_
 simp only[Act.put,sA,sZ,sS]
 refine rg_s 19 (some 21) rfl hS1 ?_
 simp only[Act.put,sA,sZ,sS]
 refine rg_s 20 (some 22) rfl hS1 ?_
 simp only[Act.put,sA,sZ,sS]
 refine rg_s 21 (some 23) rfl hS1 ?_
 simp only[Act.put,sA,sZ,sS]
 refine rg_s 22 (some 24) rfl hS1 ?_
 simp only[Act.put,sA,sZ,sS]
 refine rg_s 23 (some 25) rfl hS1 ?_
 simp only[Act.put,sA,sZ,sS]
 refine rg_s 24 (some 26) rfl hS1 ?_
 simp only[Act.put,sA,sZ,sS]
 refine rg_s 25 (some 27) rfl hS1 ?_
 simp only[Act.put,sA,sZ,sS]
 refine rg_s 26 (some 28) rfl hS1 ?_
 simp only[Act.put,sA,sZ,sS]
 refine rg_s 27 (some 29) rfl hS1 ?_
 simp only[Act.put,sA,sZ,sS]
 refine rg_t 28 (some 30) (.bool true) rfl hS1 (fun w' hs=>by rfl) ?_
 simp only[Act.put,sA,sZ,sS]
 refine rg_done (by kernel_rfl) ?_
 go_wp2_with fail
 exact bodyPost_ret (results_none rfl _ _ _) rfl ⟨rfl,hS1⟩
end
theorem catch_ok (r0 r1:Nat) (W:World):
  CallsD Tryz.prog 103 #[.pointer (some ⟨r0,0,none⟩),.pointer (some ⟨r1,0,none⟩)] .returning W fun e u' w'=>e= .returned (.tuple #[])∧u'= .returning∧w'=W:=by
 refine callsD_of_wpS Tryz.func103 rfl fun c₀ cs hu=> ?_
 apply wpS_seq
 apply wpS_region
 simp[wpOpsS,go_sem,recoverD,hu,Tryz.ntmps103,Exit.thenS]
 refine wpS_of_wp ?_
 change Code.wp _ _ _ {tmps:= #[.pointer (some ⟨r0,0,none⟩),.pointer (some ⟨r1,0,none⟩),undef,undef,undef,.nilIface,undef,undef,undef,undef,undef,undef,undef,undef,undef],defers:= []} W
 go_wp2_with fail
 exact⟨rfl,c₀.mode,rfl,_,results_none rfl _ _ _,rfl,hu,rfl⟩
end Go.Proofs.YtcfibjiikhnfhaaGreatDoor
