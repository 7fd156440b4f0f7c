/-
 Laws drawn from elder texts. Helper lemmas;no statement of the seat is proved here.
-/
import Derived.Test.YtngmgjodcnknoaaGreatDoorU8
namespace Go.Proofs.YtngmgjodcnknoaaGreatDoor
open Go.RowKit
set_option maxHeartbeats 32000000
set_option maxRecDepth 100000
set_option linter.unusedVariables false
set_option linter.unusedSimpArgs false
theorem infoRune:(Tryz.prog.info? 21).map (fun i=>(i.zero,i.size,i.bytes))=some (some (.int .i32 0),1,4):=by kernel_rfl
theorem bad_any (p:Nat→Prop) (s:Bytes) (hs:s.length≤1048576) (v:Value) (w:World) (h:Rep w p v (numsD .u8 (byI s))):
  Calls Tryz.prog 107 #[v] w fun e w'=>(∃n:Int,e= .returned (.int .i64 n)∧ -1≤n∧n≤1048576)∧Ext w w':=by
 obtain⟨a,c,rfl,hc1,hc2⟩:=h.count (z_num .u8) kA
 have hlen:=byI_len s
 have hby:=byI_at s
 obtain⟨l,hl⟩:∃l,byI s=l:=⟨_,rfl⟩
 rw[hl]at h hc1 hlen hby⊢
 have HBY:=Lh hby
 have hll:l.length≤1048576:=by omega
 clear hby hl hlen
 go_enter Tryz.func107,Tryz.ntmps107
 go_wp2_with fail
 go_loopw [3,4,5] (fun t _ _ wr=>∃i:Nat,t= .int .i64 i∧i≤l.length∧Ext w wr) (fun t _ _ _=>downV l.length t)
 case atStart=>exact⟨0,rfl,Nat.zero_le _,Ext.refl _⟩
 case round=>
  obtain⟨i,rfl,hi,hX⟩:=hrel
  have hi0:=nZ0 i
  by_cases hlt:i< l.length
  ·
   have hlI:(i:Int)< (l.length:Int):=by omega
   have HC:=Lh fun W (hE:Ext wr W)=>next_any p l HBY.out i hlt kA _ W ((h.ext hX).ext hE)
   go_wp2_with fail
   refine(HC.out _ (Ext.refl _)).mono ?_
   rintro e w3 ⟨⟨r,m,rfl,hm⟩,hB3⟩
   by_cases hm0:m=0
   ·
    subst hm0
    go_wp2_with fail
    go_ret
    exact⟨⟨_,rfl,by omega,by omega⟩,hX.trans hB3⟩
   ·
    have q1:((m:Int)==0)=false:=by rw[beq_eq_false_iff_ne];omega
    go_wp2_with fail
    go_roundw
    case rel=>exact⟨i+m,by go_num,by omega,hX.trans hB3⟩
    case measure=>exact mZ
  ·
   have hlI:¬(i:Int)< (l.length:Int):=by omega
   go_wp2_with fail
   go_ret
   exact⟨⟨_,rfl,by omega,by omega⟩,hX⟩
def RetRunes (n:Nat) (p:Nat→Prop) (e:Ending) (w':World):Prop:=∃(v:Value) (b:Bool) (L:List Int),e= .returned (.tuple #[v,.bool b])∧Rep w' p v (numsD .i32 L)∧L.length≤n
theorem runes_any (s:Bytes) (hs:s.length≤1048576) (w:World):
  Calls Tryz.prog 144 #[.string (bs s)] w fun e w'=>RetRunes s.length (fun b=>w.heap.size≤b) e w'∧Ext w w':=by
 obtain⟨bv,w1,hcv,hE1,hbv⟩:=conv_bytes w s kA
 obtain⟨a,c,rfl,hc1,hc2⟩:=hbv.count (z_num .u8) kA
 have hlen:=byI_len s
 have hby:=byI_at s
 obtain⟨l,hl⟩:∃l,byI s=l:=⟨_,rfl⟩
 rw[hl]at hcv hbv hc1 hlen hby
 have HBY:=Lh hby
 have hll:l.length≤1048576:=by omega
 have HLEN:=Lh hlen
 obtain⟨i0,hi,hz0,hz1,hz2⟩:=info_parts infoRune
 clear hby hl hlen
 go_enter Tryz.func144,Tryz.ntmps144
 go_wp2_with fail
 clear hcv
 go_loopw [5,6,7,8] (fun o t _ _ wr=>∃(i:Nat) (L:List Int) (dv:Value),t= .int .i64 i∧dv=o∧i≤l.length∧L.length≤i∧Own wr (fun _=>False) w1.heap.size 21 1 dv L.length (L.flatMap fun c=> [.v (.int .i32 c)])∧Ext w1 wr) (fun _ t _ _ _=>downV l.length t)
 case atStart=>exact⟨0,[],_,rfl,rfl,Nat.zero_le _,Nat.le_refl _,Own.nil _ _ _ _ _,Ext.refl _⟩
 case round=>
  obtain⟨i,L,dv,rfl,rfl,hi2,hL,hown,hX⟩:=hrel
  have hi0:=nZ0 i
  have hwz:=hX.size
  by_cases hlt:i< l.length
  ·
   have hlI:(i:Int)< (l.length:Int):=by omega
   have HC:=Lh fun W (hE:Ext wr W)=>next_any _ l HBY.out i hlt kA _ W ((hbv.ext hX).ext hE)
   go_wp2_with fail
   refine(HC.out _ (Ext.refl _)).mono ?_
   rintro e w3 ⟨⟨r,m,rfl,hm⟩,hB3⟩
   by_cases hm0:m=0
   ·
    subst hm0
    go_wp2_with fail
    go_ret2
    exact⟨⟨_,false,[],rfl,.nil 1,by simp⟩,hE1.trans (hX.trans hB3)⟩
   ·
    have q1:((m:Int)==0)=false:=by rw[beq_eq_false_iff_ne];omega
    have hown3:=hown.ext hB3
    have hX3:=hX.trans hB3
    have hsz3:=hB3.size
    clear hown
    obtain⟨us,hrow,hreps⟩:=hown3.rows
    go_wp2_with (at_builtin;refine wpList_append_own_at _ rfl (.tmp 23) (.tmp 25) _ rfl w1.heap.size 21 i0 (.int .i32 0) 1 4 Tryz.underlying213 hi hz0 hz1 hz2 rfl kD dv L.length us rfl (hrow.alloc _) ⟨w3.heap.size,0,none⟩ 1 1 [.int .i32 r] rfl rfl new_one kE kC kA kM ?_;intro v2 w4 hown4 hgrow4 _ hat4)
    have hX4:Ext w1 w4:=hX3.grown_own hrow hgrow4
    have hO4:Own w4 (fun _=>False) w1.heap.size 21 1 v2 (L++ [r]).length ((L++ [r]).flatMap fun c=> [.v (.int .i32 c)]):=by
     rw[List.length_append,List.flatMap_append]
     exact Own.push ((hreps.ext ((Ext.refl w3).alloc _)).ok fun b hb=>⟨hb.1,hb.2.1,by simp;omega⟩) (Reps.cons (Rep.int _ _ _ _) (Reps.nil _ _)) hown4 hgrow4 hat4
    clear hown4 hgrow4 hrow hreps hown3 hat4
    go_wp2_with fail
    go_roundw
    case rel=>exact⟨i+m,L++ [r],v2,by go_num,rfl,by omega,by rw[List.length_append];simp;omega,hO4,hX4⟩
    case measure=>exact mZ
  ·
   have hlI:¬(i:Int)< (l.length:Int):=by omega
   go_wp2_with fail
   go_ret2
   exact⟨⟨_,true,L,rfl,hown.rep.ok (fun b hb=>by have:=hE1.size;rcases hb with h | h;exact h.elim;omega),by have:=HLEN.out;omega⟩,hE1.trans hX⟩
theorem name_any (s:Bytes) (hs:s.length≤1048576) (w:World):
  Calls Tryz.prog 105 #[.string (bs s)] w fun e w'=>SomeB (fun b=>b=true→s≠ []) e∧Ext w w':=by
 have HC:=Lh fun W=>runes_any s hs W
 go_enter Tryz.func105,Tryz.ntmps105
 go_wp2_with fail
 refine(HC.out _).mono ?_
 rintro e w1 ⟨⟨v,b,L,rfl,hv,hL⟩,hB1⟩
 obtain⟨a,c,rfl,hc1,hc2⟩:=hv.count (z_num .i32) kA
 cases b with
 | false=>
  go_wp2_with fail
  go_ret
  exact⟨⟨_,rfl,fun h=>by cases h⟩,hB1⟩
 | true=>
  by_cases h0:L.length=0
  ·
   have q0:((L.length:Int)==0)=true:=by rw[h0];rfl
   go_wp2_with fail
   go_ret
   exact⟨⟨_,rfl,fun h=>by cases h⟩,hB1⟩
  ·
   have q0:((L.length:Int)==0)=false:=by rw[beq_eq_false_iff_ne];omega
   have hp:(0:Int)< (L.length:Int):=by omega
   have hne:Hid (s≠ []):=Lh (by intro e;rw[e]at hL;simp at hL;exact h0 (by rw[hL];rfl))
   obtain⟨g,o,rfl,lg,_,c0⟩:=num_at hv 0 kA
   obtain⟨x0,hx0⟩:∃x,L[0]=x:=⟨_,rfl⟩
   rw[hx0,Nat.add_zero]at c0
   clear hx0
   go_wp2_with fail
   refine(begins_any _ _).mono ?_
   rintro _ w2 ⟨⟨b,rfl,_⟩,rfl⟩
   cases b with
   | false=>
    go_wp2_with fail
    go_ret
    exact⟨⟨_,rfl,fun h=>by cases h⟩,hB1⟩
   | true=>
    go_wp2_with fail
    go_loopw [5] (fun t wr=>∃i:Nat,t= .int .i64 i∧i≤L.length∧wr=w2) (fun t _=>downV L.length t)
    case atStart=>exact⟨0,rfl,Nat.zero_le _,rfl⟩
    case round=>
     obtain⟨i,rfl,hi,rfl⟩:=hrel
     have hi0:=nZ0 i
     by_cases hlt:i< L.length
     ·
      have hlI:(i:Int)< (L.length:Int):=by omega
      obtain⟨g',o',e',lg',_,ci⟩:=num_at hv i hlt
      cases e'
      obtain⟨x,hx⟩:∃x,L[i]=x:=⟨_,rfl⟩
      rw[hx]at ci
      clear hx
      go_wp2_with fail
      refine(goeson_any _ _).mono ?_
      rintro _ w3 ⟨⟨b,rfl,_⟩,rfl⟩
      cases b with
      | false=>
       go_wp2_with fail
       go_ret
       exact⟨⟨_,rfl,fun h=>by cases h⟩,hB1⟩
      | true=>
       go_wp2_with fail
       go_roundw
       case rel=>exact⟨i+1,by go_num,by omega,trivial⟩
       case measure=>exact mZ
     ·
      have hlI:¬(i:Int)< (L.length:Int):=by omega
      go_wp2_with fail
      go_ret
      exact⟨⟨_,rfl,fun _=>hne.out⟩,hB1⟩
theorem bs_nil (x:Bytes) (h:x= []):((bs x).toList==(⟨#[]⟩:ByteArray).toList)=true:=by rw[h,show(⟨#[]⟩:ByteArray)=bs [] from rfl];exact beq_self_eq_true _
theorem bs_nil2 (x:Bytes) (h:x= []):((bs x).toList== [])=true:=by rw[bs_toList,h];rfl
theorem bs_nnil2 (x:Bytes) (h:x≠ []):((bs x).toList== [])=false:=by rw[bs_toList,beq_eq_false_iff_ne];exact h
theorem bs_nnil (x:Bytes) (h:x≠ []):((bs x).toList==(⟨#[]⟩:ByteArray).toList)=false:=by
 rw[show(⟨#[]⟩:ByteArray)=bs [] from rfl,bs_toList,bs_toList,beq_eq_false_iff_ne];exact h
theorem splitS_len (c:UInt8):∀(s cur:Bytes),(∀x∈splitS c cur s,x.length≤cur.length+s.length)∧(splitS c cur s).length≤s.length+1
 | [],cur=>by simp[splitS]
 | b::r,cur=>by
  rw[splitS]
  split
  ·
   have:=splitS_len c r []
   refine⟨fun x hx=> ?_,?_⟩
   ·
    rcases List.mem_cons.1 hx with rfl | h
    ·
     omega
    ·
     have:=this.1 x h;simp at this;simp only[List.length_cons];omega
   ·
    have:=this.2;simp only[List.length_cons];omega
  ·
   have:=splitS_len c r (cur++ [b])
   refine⟨fun x hx=> ?_,?_⟩
   ·
    have:=this.1 x hx;rw[List.length_append]at this;simp only[List.length_cons,List.length_nil]at*;omega
   ·
    have:=this.2;simp only[List.length_cons];omega
theorem key12_any (s:Bytes) (hs:s.length≤1048576) (w:World):
  Calls Tryz.prog 106 #[.string (bs s)] w fun e w'=>SomeB (fun b=>b=true→pathOk s) e∧Ext w w':=by
 by_cases h46:s= [46]
 ·
  have e2:((bs s).toList==(⟨#[46]⟩:ByteArray).toList)=true:=by rw[h46,show(⟨#[46]⟩:ByteArray)=bs [46] from rfl];exact beq_self_eq_true _
  have e1:((bs s).toList== [46])=true:=by rw[bs_toList,h46];rfl
  have HP:Hid (pathOk s):=Lh ⟨hs,fun h=>absurd h46 h⟩
  clear h46
  go_enter Tryz.func106,Tryz.ntmps106
  go_wp2_with fail
  go_ret
  exact⟨⟨_,rfl,fun _=>HP.out⟩,Ext.refl _⟩
 ·
  have e1:((bs s).toList== [46])=false:=by rw[bs_toList,beq_eq_false_iff_ne];exact h46
  have e2:((bs s).toList==(⟨#[46]⟩:ByteArray).toList)=false:=by rw[show(⟨#[46]⟩:ByteArray)=bs [46] from rfl,bs_toList (l:= [46])];exact e1
  have HSP:=Lh fun W=>split_any s 47 W hs
  have hsl:=splitS_len 47 s []
  have HPO:Hid ((∀x∈splitS 47 [] s,x≠ [])→pathOk s):=Lh fun h=>⟨hs,fun _=>h⟩
  obtain⟨l,hl⟩:∃l,splitS 47 [] s=l:=⟨_,rfl⟩
  rw[hl]at HSP hsl HPO
  have hll:l.length≤1048577:=by omega
  have HLL:Hid (∀x∈l,x.length≤1048576):=Lh fun x hx=>by have:=hsl.1 x hx;simp at this;omega
  clear h46 hl hsl
  go_enter Tryz.func106,Tryz.ntmps106
  go_wp2_with fail
  refine(HSP.out _).mono ?_
  rintro e w1 ⟨⟨v,rfl,hv⟩,hB1⟩
  obtain⟨a,c,rfl,hc1,hc2⟩:=hv.count z_str kA
  go_wp2_with fail
  go_loopw [4,5] (fun t _ wr=>∃i:Nat,t= .int .i64 i∧i≤l.length∧Ext w1 wr∧Hid (∀x∈l.take i,x≠ [])) (fun t _ _=>downV l.length t)
  case atStart=>exact⟨0,rfl,Nat.zero_le _,Ext.refl _,Lh kI⟩
  case round=>
   obtain⟨i,rfl,hi,hX,HI⟩:=hrel
   have hi0:=nZ0 i
   by_cases hlt:i< l.length
   ·
    have hlI:(i:Int)< (l.length:Int):=by omega
    obtain⟨g,o,rfl,lg,_,c0⟩:=str_at (hv.ext hX) i hlt
    have hxl:=HLL.out _ (List.getElem_mem hlt)
    have HS:Hid (l[i]≠ []→∀x∈l.take (i+1),x≠ []):=Lh fun h x hx=>by
     rw[List.take_add_one,List.getElem?_eq_getElem hlt]at hx
     rcases List.mem_append.1 hx with h1 | h1
     ·
      exact HI.out x h1
     ·
      have:x=l[i]:=by simpa using h1
      rw[this];exact h
    obtain⟨x,hx⟩:∃x,l[i]=x:=⟨_,rfl⟩
    rw[hx]at c0 hxl HS
    clear hx HI
    have NAME:Hid (∀(y:Bytes) (W:World),y.length≤1048576→Calls Tryz.prog 105 #[.string (bs y)] W fun e w'=>SomeB (fun b=>b=true→y≠ []) e∧Ext W w'):=Lh fun y W h=>name_any y h W
    obtain⟨last,hlast⟩:∃m:Int,(l.length:Int) - 1=m:=⟨_,rfl⟩
    by_cases hend:(i:Int)=last
    ·
     have qe:((i:Int)==last)=true:=by rw[beq_iff_eq];exact hend
     clear hend
     by_cases hx0:x= []
     ·
      have n1:=bs_nil x hx0
      have n2:=bs_nil2 x hx0
      clear hx0
      go_wp2_with fail
      refine(NAME.out _ _ hxl).mono ?_
      rintro e w3 ⟨⟨b,rfl,hb⟩,hB3⟩
      cases b with
      | false=>
       go_wp2_with fail
       go_ret
       exact⟨⟨_,rfl,fun h=>by cases h⟩,hB1.trans (hX.trans hB3)⟩
      | true=>
       have HN:=Lh (HS.out (hb rfl))
       clear hb HS
       go_wp2_with fail
       go_roundw
       case rel=>exact⟨i+1,by go_num,by omega,hX.trans hB3,HN⟩
       case measure=>exact mZ
     ·
      have n1:=bs_nnil x hx0
      have n2:=bs_nnil2 x hx0
      have hs0:0< (bs x).size:=by rw[bs_size];exact List.length_pos_iff.2 hx0
      have hs1:(bs x).size≤1048576:=by rw[bs_size];exact hxl
      have hsm:(bs x).size≤9223372036854775807:=by omega
      have hI1:(1:Int)≤((bs x).size:Int):=by omega
      by_cases h64:((((bs x)[0]'hs0).toNat:Int)==64)=true
      ·
       have hx1:(bs x).extract 1 (bs x).size=bs (x.drop 1):=by rw[bs_extract,bs_size,List.take_of_length_le (by rw[List.length_drop];exact Nat.le_refl _)]
       have HX0:=Lh hx0
       have hyl:(x.drop 1).length≤1048576:=by rw[List.length_drop];omega
       obtain⟨y,hy⟩:∃y,x.drop 1=y:=⟨_,rfl⟩
       rw[hy]at hx1 hyl
       clear hx0 hy
       go_wp2_with fail
       refine(NAME.out _ _ hyl).mono ?_
       rintro e w3 ⟨⟨b,rfl,hb⟩,hB3⟩
       cases b with
       | false=>
        go_wp2_with fail
        go_ret
        exact⟨⟨_,rfl,fun h=>by cases h⟩,hB1.trans (hX.trans hB3)⟩
       | true=>
        have HN:=Lh (HS.out HX0.out)
        clear hb HS
        go_wp2_with fail
        go_roundw
        case rel=>exact⟨i+1,by go_num,by omega,hX.trans hB3,HN⟩
        case measure=>exact mZ
      ·
       have h64':((((bs x)[0]'hs0).toNat:Int)==64)=false:=by simpa using h64
       clear h64 hx0
       go_wp2_with fail
       refine(NAME.out _ _ hxl).mono ?_
       rintro e w3 ⟨⟨b,rfl,hb⟩,hB3⟩
       cases b with
       | false=>
        go_wp2_with fail
        go_ret
        exact⟨⟨_,rfl,fun h=>by cases h⟩,hB1.trans (hX.trans hB3)⟩
       | true=>
        have HN:=Lh (HS.out (hb rfl))
        clear hb HS
        go_wp2_with fail
        go_roundw
        case rel=>exact⟨i+1,by go_num,by omega,hX.trans hB3,HN⟩
        case measure=>exact mZ
    ·
     have qe:((i:Int)==last)=false:=by rw[beq_eq_false_iff_ne];exact hend
     clear hend
     go_wp2_with fail
     refine(NAME.out _ _ hxl).mono ?_
     rintro e w3 ⟨⟨b,rfl,hb⟩,hB3⟩
     cases b with
     | false=>
      go_wp2_with fail
      go_ret
      exact⟨⟨_,rfl,fun h=>by cases h⟩,hB1.trans (hX.trans hB3)⟩
     | true=>
      have HN:=Lh (HS.out (hb rfl))
      clear hb HS
      go_wp2_with fail
      go_roundw
      case rel=>exact⟨i+1,by go_num,by omega,hX.trans hB3,HN⟩
      case measure=>exact mZ
   ·
    have hlI:¬(i:Int)< (l.length:Int):=by omega
    have HN:=Lh (HPO.out (by have:=HI.out;rw[List.take_of_length_le kA]at this;exact this))
    clear HI
    go_wp2_with fail
    go_ret
    exact⟨⟨_,rfl,fun _=>HN.out⟩,hB1.trans hX⟩
def RulesB (l:List Rule):Prop:=∀r∈l,r.path.length≤1048576∧r.keys.length≤1048576∧(∀x∈r.path,x.length≤1048576)∧∀x∈r.keys,x.length≤1048576
def RuleOk (r:Rule):Prop:=r.path≠ []∧∀k∈r.keys,pathOk k
theorem take_all {α:Type} {q:α→Prop} {l:List α} {i:Nat} (hlt:i< l.length) (h:∀x∈l.take i,q x) (hi:q l[i]):∀x∈l.take (i+1),q x:=fun x hx=>by
 rw[List.take_add_one,List.getElem?_eq_getElem hlt]at hx
 rcases List.mem_append.1 hx with h1 | h1
 ·
  exact h x h1
 ·
  have:x=l[i]:=by simpa using h1
  rw[this];exact hi
theorem rule_any (r:Rule) (p:Nat→Prop) (vp vk:Value) (w:World) (hb1:r.path.length≤1048576) (hb2:r.keys.length≤1048576) (hb3:∀x∈r.path,x.length≤1048576) (hb4:∀x∈r.keys,x.length≤1048576)
  (hvp:Rep w p vp (strsD r.path)) (hvk:Rep w p vk (strsD r.keys)):
  Calls Tryz.prog 73 #[.agg #[vp,vk]] w fun e w'=>SomeB (fun b=>b=true→RuleOk r) e∧Ext w w':=by
 obtain⟨pa,pc,rfl,_,_⟩:=hvp.count z_str kA
 obtain⟨ka,kc,rfl,_,_⟩:=hvk.count z_str kA
 have HP:=Lh hb3
 have HK:=Lh hb4
 have key:∃w1,Hid (w1=w.alloc (.cells #[.slice pa r.path.length pc,.slice ka r.keys.length kc] 62)):=⟨_,Lh rfl⟩
 obtain⟨w1,HW1⟩:=key
 have hE1:Ext w w1:=by rw[HW1.out];exact(Ext.refl w).alloc _
 have l0:w.heap.size< w1.heap.size:=by rw[HW1.out];simp
 have k0:w1.cell? ⟨w.heap.size,0,none⟩=some (.slice pa r.path.length pc):=by rw[HW1.out];simp[go_sem]
 have k1:w1.cell? ⟨w.heap.size,1,none⟩=some (.slice ka r.keys.length kc):=by rw[HW1.out];simp[go_sem]
 clear hb3 hb4
 go_enter Tryz.func73,Tryz.ntmps73
 by_cases q1:0< r.path.length
 ·
  have q1I:(0:Int)< (r.path.length:Int):=by omega
  have hne:r.path≠ []:=by intro e;rw[e]at q1;simp at q1
  have HNE:=Lh hne
  clear hne
  by_cases q2:1< r.path.length
  ·
   have q2I:(1:Int)< (r.path.length:Int):=by omega
   clear q1 q2
   go_wp2_with fail
   rw[←HW1.out]
   clear q1I
   go_loopw [3,4] (fun x t wr=>∃(ok:Bool) (i:Nat),x= .bool ok∧t= .int .i64 i∧i≤r.path.length∧Ext w1 wr∧Hid (ok=true→r.path≠ [])) (fun _ t _=>downV r.path.length t)
   case atStart=>first | exact⟨true,0,rfl,rfl,Nat.zero_le _,Ext.refl _,Lh fun _=>HNE.out⟩ | exact⟨false,0,rfl,rfl,Nat.zero_le _,Ext.refl _,Lh fun h=>by cases h⟩
   case round=>
    obtain⟨ok,i,rfl,rfl,hi,hX,HO⟩:=hrel
    have hi0:=nZ0 i
    have k0r:=hX.keep l0 k0
    have k1r:=hX.keep l0 k1
    have l0r:w.heap.size< wr.heap.size:=Nat.lt_of_lt_of_le l0 hX.size
    by_cases hlt:i< r.path.length
    ·
     have hlI:(i:Int)< (r.path.length:Int):=by omega
     obtain⟨g,o,rfl,lg,_,c0⟩:=str_at (hvp.ext (hE1.trans hX)) i hlt
     have hxl:=HP.out _ (List.getElem_mem hlt)
     obtain⟨x,hx⟩:∃x,r.path[i]=x:=⟨_,rfl⟩
     rw[hx]at c0 hxl
     clear hx
     cases ok with
     | false=>
      go_wp2_with fail
      go_roundw
      case rel=>exact⟨_,i+1,rfl,by go_num,by omega,hX,HO⟩
      case measure=>exact mZ
     | true=>
      have HN:Hid (r.path≠ []):=Lh (HO.out rfl)
      clear HO
      go_wp2_with fail
      refine(name_any x hxl _).mono ?_
      rintro e w3 ⟨⟨b,rfl,_⟩,hB3⟩
      go_wp2_with fail
      go_roundw
      case rel=>exact⟨_,i+1,rfl,by go_num,by omega,hX.trans hB3,Lh fun _=>HN.out⟩
      case measure=>exact mZ
    ·
     have hlI:¬(i:Int)< (r.path.length:Int):=by omega
     clear hlt
     go_wp2_with fail
     go_loopw [3,5,6] (fun x t _ wr=>∃(ok:Bool) (i:Nat),x= .bool ok∧t= .int .i64 i∧i≤r.keys.length∧Ext w1 wr∧Hid (ok=true→r.path≠ []∧∀x∈r.keys.take i,pathOk x)) (fun _ t _ _=>downV r.keys.length t)
     case atStart=>exact⟨ok,0,rfl,rfl,Nat.zero_le _,hX,Lh fun h=>⟨HO.out h,by simp⟩⟩
     case round=>
      clear HO hX k0r k1r l0r hlI hi hi0
      obtain⟨ok,i,rfl,rfl,hi,hX,HO⟩:=hrel
      have hi0:=nZ0 i
      have k0r:=hX.keep l0 k0
      have k1r:=hX.keep l0 k1
      have l0r:w.heap.size< wr.heap.size:=Nat.lt_of_lt_of_le l0 hX.size
      by_cases hlt:i< r.keys.length
      ·
       have hlI:(i:Int)< (r.keys.length:Int):=by omega
       obtain⟨g,o,rfl,lg,_,c0⟩:=str_at (hvk.ext (hE1.trans hX)) i hlt
       have hxl:=HK.out _ (List.getElem_mem hlt)
       have HT:Hid ((ok=true)→pathOk r.keys[i]→(r.path≠ []∧∀x∈r.keys.take (i+1),pathOk x)):=Lh fun h1 h2=>⟨(HO.out h1).1,take_all hlt (HO.out h1).2 h2⟩
       obtain⟨x,hx⟩:∃x,r.keys[i]=x:=⟨_,rfl⟩
       rw[hx]at c0 hxl HT
       clear hx HO
       obtain⟨QQ,hQQ⟩:∃QQ:Prop,QQ=(r.path≠ []∧∀x∈r.keys.take (i+1),pathOk x):=⟨_,rfl⟩
       rw[←hQQ]at HT
       have HQ:=Lh hQQ
       clear hQQ
       have two:∀(ok2:Bool),True:=fun _=>trivial
       cases ok with
       | false=>
        go_wp2_with fail
        obtain⟨wz,hwz⟩:∃wz,wz=wr:=⟨_,rfl⟩
        subst hwz
        have hHH:Hid ((false:Bool)=true→QQ):=Lh fun h=>by cases h
        go_loopw [3,6] (fun x t wq=>∃(ok:Bool) (k:Nat),x= .bool ok∧t= .int .i64 k∧k≤i∧Dr wz wq∧Hid (ok=true→QQ)) (fun _ t _=>downV i t)
        case atStart=>exact⟨false,0,rfl,rfl,Nat.zero_le _,Dr.refl _,hHH⟩
        case round=>
         obtain⟨ok,k,rfl,rfl,hk,hD,HO⟩:=hrel
         have hk0:=nZ0 k
         have k1q:=hD.ext.keep l0r k1r
         have lq:w.heap.size< wr.heap.size:=Nat.lt_of_lt_of_le l0r hD.ext.size
         have cq:=hD.ext.keep lg c0
         by_cases hkl:k< i
         ·
          have hkI:(k:Int)< (i:Int):=by omega
          have hkJ:(k:Int)< (r.keys.length:Int):=by omega
          obtain⟨g',o',e',lg',_,ck⟩:=str_at (hvk.ext (hE1.trans ((hX).trans hD.ext))) k kA
          cases e'
          obtain⟨y,hy⟩:∃y,r.keys[k]=y:=⟨_,rfl⟩
          rw[hy]at ck
          clear hy
          cases ok with
          | false=>
           go_wp2_with fail
           go_quiet (fail)
           go_wp2_with fail
           go_roundw
           case rel=>exact⟨_,k+1,rfl,by go_num,by omega,hD.drewN _,HO⟩
           case measure=>exact mZ
          | true=>
           have HN:Hid QQ:=Lh (HO.out rfl)
           clear HO
           go_wp2_with fail
           go_quiet (fail)
           go_wp2_with fail
           go_roundw
           case rel=>exact⟨_,k+1,rfl,by go_num,by omega,hD.drewN _,Lh fun _=>HN.out⟩
           case measure=>exact mZ
         ·
          have hkI:¬(k:Int)< (i:Int):=by omega
          go_wp2_with fail
          go_roundw
          case rel=>exact⟨_,i+1,rfl,by go_num,by omega,(hX).trans hD.ext,Lh fun h=>by rw[←HQ.out];exact HO.out h⟩
          case measure=>exact mZ
       | true=>
        go_wp2_with fail
        refine(key12_any x hxl _).mono ?_
        rintro e w3 ⟨⟨b,rfl,hbk⟩,hB3⟩
        have hHH:Hid (b=true→QQ):=Lh fun h=>HT.out kI (hbk h)
        have hX3:=hX.trans hB3
        have k1s:=hB3.keep l0r k1r
        have l0s:w.heap.size< w3.heap.size:=Nat.lt_of_lt_of_le l0r hB3.size
        have c0s:=hB3.keep lg c0
        have lgs:g< w3.heap.size:=Nat.lt_of_lt_of_le lg hB3.size
        clear hbk HT k0r k1r l0r c0 lg hX hB3
        go_wp2_with fail
        go_loopw [3,6] (fun x t wq=>∃(ok:Bool) (k:Nat),x= .bool ok∧t= .int .i64 k∧k≤i∧Dr w3 wq∧Hid (ok=true→QQ)) (fun _ t _=>downV i t)
        case atStart=>exact⟨b,0,rfl,rfl,Nat.zero_le _,Dr.refl _,hHH⟩
        case round=>
         obtain⟨ok,k,rfl,rfl,hk,hD,HO⟩:=hrel
         have hk0:=nZ0 k
         have k1q:=hD.ext.keep l0s k1s
         have lq:w.heap.size< wr.heap.size:=Nat.lt_of_lt_of_le l0s hD.ext.size
         have cq:=hD.ext.keep lgs c0s
         by_cases hkl:k< i
         ·
          have hkI:(k:Int)< (i:Int):=by omega
          have hkJ:(k:Int)< (r.keys.length:Int):=by omega
          obtain⟨g',o',e',lg',_,ck⟩:=str_at (hvk.ext (hE1.trans ((hX3).trans hD.ext))) k kA
          cases e'
          obtain⟨y,hy⟩:∃y,r.keys[k]=y:=⟨_,rfl⟩
          rw[hy]at ck
          clear hy
          cases ok with
          | false=>
           go_wp2_with fail
           go_quiet (fail)
           go_wp2_with fail
           go_roundw
           case rel=>exact⟨_,k+1,rfl,by go_num,by omega,hD.drewN _,HO⟩
           case measure=>exact mZ
          | true=>
           have HN:Hid QQ:=Lh (HO.out rfl)
           clear HO
           go_wp2_with fail
           go_quiet (fail)
           go_wp2_with fail
           go_roundw
           case rel=>exact⟨_,k+1,rfl,by go_num,by omega,hD.drewN _,Lh fun _=>HN.out⟩
           case measure=>exact mZ
         ·
          have hkI:¬(k:Int)< (i:Int):=by omega
          go_wp2_with fail
          go_roundw
          case rel=>exact⟨_,i+1,rfl,by go_num,by omega,(hX3).trans hD.ext,Lh fun h=>by rw[←HQ.out];exact HO.out h⟩
          case measure=>exact mZ
      ·
       have hlI:¬(i:Int)< (r.keys.length:Int):=by omega
       have HN:Hid (ok=true→RuleOk r):=Lh fun h=>by have:=HO.out h;rw[List.take_of_length_le kA]at this;exact this
       clear HO
       go_wp2_with fail
       go_ret
       exact⟨⟨_,rfl,HN.out⟩,hE1.trans hX⟩
  ·
   have q2I:¬(1:Int)< (r.path.length:Int):=by omega
   by_cases q3:r.keys.length=0
   ·
    have q3I:((r.keys.length:Int)==0)=true:=by rw[q3];rfl
    clear q1 q2 q3
    go_wp2_with fail
    rw[←HW1.out]
    clear q1I
    go_loopw [3,4] (fun x t wr=>∃(ok:Bool) (i:Nat),x= .bool ok∧t= .int .i64 i∧i≤r.path.length∧Ext w1 wr∧Hid (ok=true→r.path≠ [])) (fun _ t _=>downV r.path.length t)
    case atStart=>first | exact⟨true,0,rfl,rfl,Nat.zero_le _,Ext.refl _,Lh fun _=>HNE.out⟩ | exact⟨false,0,rfl,rfl,Nat.zero_le _,Ext.refl _,Lh fun h=>by cases h⟩
    case round=>
     obtain⟨ok,i,rfl,rfl,hi,hX,HO⟩:=hrel
     have hi0:=nZ0 i
     have k0r:=hX.keep l0 k0
     have k1r:=hX.keep l0 k1
     have l0r:w.heap.size< wr.heap.size:=Nat.lt_of_lt_of_le l0 hX.size
     by_cases hlt:i< r.path.length
     ·
      have hlI:(i:Int)< (r.path.length:Int):=by omega
      obtain⟨g,o,rfl,lg,_,c0⟩:=str_at (hvp.ext (hE1.trans hX)) i hlt
      have hxl:=HP.out _ (List.getElem_mem hlt)
      obtain⟨x,hx⟩:∃x,r.path[i]=x:=⟨_,rfl⟩
      rw[hx]at c0 hxl
      clear hx
      cases ok with
      | false=>
       go_wp2_with fail
       go_roundw
       case rel=>exact⟨_,i+1,rfl,by go_num,by omega,hX,HO⟩
       case measure=>exact mZ
      | true=>
       have HN:Hid (r.path≠ []):=Lh (HO.out rfl)
       clear HO
       go_wp2_with fail
       refine(name_any x hxl _).mono ?_
       rintro e w3 ⟨⟨b,rfl,_⟩,hB3⟩
       go_wp2_with fail
       go_roundw
       case rel=>exact⟨_,i+1,rfl,by go_num,by omega,hX.trans hB3,Lh fun _=>HN.out⟩
       case measure=>exact mZ
     ·
      have hlI:¬(i:Int)< (r.path.length:Int):=by omega
      clear hlt
      go_wp2_with fail
      go_loopw [3,5,6] (fun x t _ wr=>∃(ok:Bool) (i:Nat),x= .bool ok∧t= .int .i64 i∧i≤r.keys.length∧Ext w1 wr∧Hid (ok=true→r.path≠ []∧∀x∈r.keys.take i,pathOk x)) (fun _ t _ _=>downV r.keys.length t)
      case atStart=>exact⟨ok,0,rfl,rfl,Nat.zero_le _,hX,Lh fun h=>⟨HO.out h,by simp⟩⟩
      case round=>
       clear HO hX k0r k1r l0r hlI hi hi0
       obtain⟨ok,i,rfl,rfl,hi,hX,HO⟩:=hrel
       have hi0:=nZ0 i
       have k0r:=hX.keep l0 k0
       have k1r:=hX.keep l0 k1
       have l0r:w.heap.size< wr.heap.size:=Nat.lt_of_lt_of_le l0 hX.size
       by_cases hlt:i< r.keys.length
       ·
        have hlI:(i:Int)< (r.keys.length:Int):=by omega
        obtain⟨g,o,rfl,lg,_,c0⟩:=str_at (hvk.ext (hE1.trans hX)) i hlt
        have hxl:=HK.out _ (List.getElem_mem hlt)
        have HT:Hid ((ok=true)→pathOk r.keys[i]→(r.path≠ []∧∀x∈r.keys.take (i+1),pathOk x)):=Lh fun h1 h2=>⟨(HO.out h1).1,take_all hlt (HO.out h1).2 h2⟩
        obtain⟨x,hx⟩:∃x,r.keys[i]=x:=⟨_,rfl⟩
        rw[hx]at c0 hxl HT
        clear hx HO
        obtain⟨QQ,hQQ⟩:∃QQ:Prop,QQ=(r.path≠ []∧∀x∈r.keys.take (i+1),pathOk x):=⟨_,rfl⟩
        rw[←hQQ]at HT
        have HQ:=Lh hQQ
        clear hQQ
        have two:∀(ok2:Bool),True:=fun _=>trivial
        cases ok with
        | false=>
         go_wp2_with fail
         obtain⟨wz,hwz⟩:∃wz,wz=wr:=⟨_,rfl⟩
         subst hwz
         have hHH:Hid ((false:Bool)=true→QQ):=Lh fun h=>by cases h
         go_loopw [3,6] (fun x t wq=>∃(ok:Bool) (k:Nat),x= .bool ok∧t= .int .i64 k∧k≤i∧Dr wz wq∧Hid (ok=true→QQ)) (fun _ t _=>downV i t)
         case atStart=>exact⟨false,0,rfl,rfl,Nat.zero_le _,Dr.refl _,hHH⟩
         case round=>
          obtain⟨ok,k,rfl,rfl,hk,hD,HO⟩:=hrel
          have hk0:=nZ0 k
          have k1q:=hD.ext.keep l0r k1r
          have lq:w.heap.size< wr.heap.size:=Nat.lt_of_lt_of_le l0r hD.ext.size
          have cq:=hD.ext.keep lg c0
          by_cases hkl:k< i
          ·
           have hkI:(k:Int)< (i:Int):=by omega
           have hkJ:(k:Int)< (r.keys.length:Int):=by omega
           obtain⟨g',o',e',lg',_,ck⟩:=str_at (hvk.ext (hE1.trans ((hX).trans hD.ext))) k kA
           cases e'
           obtain⟨y,hy⟩:∃y,r.keys[k]=y:=⟨_,rfl⟩
           rw[hy]at ck
           clear hy
           cases ok with
           | false=>
            go_wp2_with fail
            go_quiet (fail)
            go_wp2_with fail
            go_roundw
            case rel=>exact⟨_,k+1,rfl,by go_num,by omega,hD.drewN _,HO⟩
            case measure=>exact mZ
           | true=>
            have HN:Hid QQ:=Lh (HO.out rfl)
            clear HO
            go_wp2_with fail
            go_quiet (fail)
            go_wp2_with fail
            go_roundw
            case rel=>exact⟨_,k+1,rfl,by go_num,by omega,hD.drewN _,Lh fun _=>HN.out⟩
            case measure=>exact mZ
          ·
           have hkI:¬(k:Int)< (i:Int):=by omega
           go_wp2_with fail
           go_roundw
           case rel=>exact⟨_,i+1,rfl,by go_num,by omega,(hX).trans hD.ext,Lh fun h=>by rw[←HQ.out];exact HO.out h⟩
           case measure=>exact mZ
        | true=>
         go_wp2_with fail
         refine(key12_any x hxl _).mono ?_
         rintro e w3 ⟨⟨b,rfl,hbk⟩,hB3⟩
         have hHH:Hid (b=true→QQ):=Lh fun h=>HT.out kI (hbk h)
         have hX3:=hX.trans hB3
         have k1s:=hB3.keep l0r k1r
         have l0s:w.heap.size< w3.heap.size:=Nat.lt_of_lt_of_le l0r hB3.size
         have c0s:=hB3.keep lg c0
         have lgs:g< w3.heap.size:=Nat.lt_of_lt_of_le lg hB3.size
         clear hbk HT k0r k1r l0r c0 lg hX hB3
         go_wp2_with fail
         go_loopw [3,6] (fun x t wq=>∃(ok:Bool) (k:Nat),x= .bool ok∧t= .int .i64 k∧k≤i∧Dr w3 wq∧Hid (ok=true→QQ)) (fun _ t _=>downV i t)
         case atStart=>exact⟨b,0,rfl,rfl,Nat.zero_le _,Dr.refl _,hHH⟩
         case round=>
          obtain⟨ok,k,rfl,rfl,hk,hD,HO⟩:=hrel
          have hk0:=nZ0 k
          have k1q:=hD.ext.keep l0s k1s
          have lq:w.heap.size< wr.heap.size:=Nat.lt_of_lt_of_le l0s hD.ext.size
          have cq:=hD.ext.keep lgs c0s
          by_cases hkl:k< i
          ·
           have hkI:(k:Int)< (i:Int):=by omega
           have hkJ:(k:Int)< (r.keys.length:Int):=by omega
           obtain⟨g',o',e',lg',_,ck⟩:=str_at (hvk.ext (hE1.trans ((hX3).trans hD.ext))) k kA
           cases e'
           obtain⟨y,hy⟩:∃y,r.keys[k]=y:=⟨_,rfl⟩
           rw[hy]at ck
           clear hy
           cases ok with
           | false=>
            go_wp2_with fail
            go_quiet (fail)
            go_wp2_with fail
            go_roundw
            case rel=>exact⟨_,k+1,rfl,by go_num,by omega,hD.drewN _,HO⟩
            case measure=>exact mZ
           | true=>
            have HN:Hid QQ:=Lh (HO.out rfl)
            clear HO
            go_wp2_with fail
            go_quiet (fail)
            go_wp2_with fail
            go_roundw
            case rel=>exact⟨_,k+1,rfl,by go_num,by omega,hD.drewN _,Lh fun _=>HN.out⟩
            case measure=>exact mZ
          ·
           have hkI:¬(k:Int)< (i:Int):=by omega
           go_wp2_with fail
           go_roundw
           case rel=>exact⟨_,i+1,rfl,by go_num,by omega,(hX3).trans hD.ext,Lh fun h=>by rw[←HQ.out];exact HO.out h⟩
           case measure=>exact mZ
       ·
        have hlI:¬(i:Int)< (r.keys.length:Int):=by omega
        have HN:Hid (ok=true→RuleOk r):=Lh fun h=>by have:=HO.out h;rw[List.take_of_length_le kA]at this;exact this
        clear HO
        go_wp2_with fail
        go_ret
        exact⟨⟨_,rfl,HN.out⟩,hE1.trans hX⟩
   ·
    have q3I:((r.keys.length:Int)==0)=false:=by rw[beq_eq_false_iff_ne];omega
    clear q1 q2 q3
    go_wp2_with fail
    rw[←HW1.out]
    clear q1I
    go_loopw [3,4] (fun x t wr=>∃(ok:Bool) (i:Nat),x= .bool ok∧t= .int .i64 i∧i≤r.path.length∧Ext w1 wr∧Hid (ok=true→r.path≠ [])) (fun _ t _=>downV r.path.length t)
    case atStart=>first | exact⟨true,0,rfl,rfl,Nat.zero_le _,Ext.refl _,Lh fun _=>HNE.out⟩ | exact⟨false,0,rfl,rfl,Nat.zero_le _,Ext.refl _,Lh fun h=>by cases h⟩
    case round=>
     obtain⟨ok,i,rfl,rfl,hi,hX,HO⟩:=hrel
     have hi0:=nZ0 i
     have k0r:=hX.keep l0 k0
     have k1r:=hX.keep l0 k1
     have l0r:w.heap.size< wr.heap.size:=Nat.lt_of_lt_of_le l0 hX.size
     by_cases hlt:i< r.path.length
     ·
      have hlI:(i:Int)< (r.path.length:Int):=by omega
      obtain⟨g,o,rfl,lg,_,c0⟩:=str_at (hvp.ext (hE1.trans hX)) i hlt
      have hxl:=HP.out _ (List.getElem_mem hlt)
      obtain⟨x,hx⟩:∃x,r.path[i]=x:=⟨_,rfl⟩
      rw[hx]at c0 hxl
      clear hx
      cases ok with
      | false=>
       go_wp2_with fail
       go_roundw
       case rel=>exact⟨_,i+1,rfl,by go_num,by omega,hX,HO⟩
       case measure=>exact mZ
      | true=>
       have HN:Hid (r.path≠ []):=Lh (HO.out rfl)
       clear HO
       go_wp2_with fail
       refine(name_any x hxl _).mono ?_
       rintro e w3 ⟨⟨b,rfl,_⟩,hB3⟩
       go_wp2_with fail
       go_roundw
       case rel=>exact⟨_,i+1,rfl,by go_num,by omega,hX.trans hB3,Lh fun _=>HN.out⟩
       case measure=>exact mZ
     ·
      have hlI:¬(i:Int)< (r.path.length:Int):=by omega
      clear hlt
      go_wp2_with fail
      go_loopw [3,5,6] (fun x t _ wr=>∃(ok:Bool) (i:Nat),x= .bool ok∧t= .int .i64 i∧i≤r.keys.length∧Ext w1 wr∧Hid (ok=true→r.path≠ []∧∀x∈r.keys.take i,pathOk x)) (fun _ t _ _=>downV r.keys.length t)
      case atStart=>exact⟨ok,0,rfl,rfl,Nat.zero_le _,hX,Lh fun h=>⟨HO.out h,by simp⟩⟩
      case round=>
       clear HO hX k0r k1r l0r hlI hi hi0
       obtain⟨ok,i,rfl,rfl,hi,hX,HO⟩:=hrel
       have hi0:=nZ0 i
       have k0r:=hX.keep l0 k0
       have k1r:=hX.keep l0 k1
       have l0r:w.heap.size< wr.heap.size:=Nat.lt_of_lt_of_le l0 hX.size
       by_cases hlt:i< r.keys.length
       ·
        have hlI:(i:Int)< (r.keys.length:Int):=by omega
        obtain⟨g,o,rfl,lg,_,c0⟩:=str_at (hvk.ext (hE1.trans hX)) i hlt
        have hxl:=HK.out _ (List.getElem_mem hlt)
        have HT:Hid ((ok=true)→pathOk r.keys[i]→(r.path≠ []∧∀x∈r.keys.take (i+1),pathOk x)):=Lh fun h1 h2=>⟨(HO.out h1).1,take_all hlt (HO.out h1).2 h2⟩
        obtain⟨x,hx⟩:∃x,r.keys[i]=x:=⟨_,rfl⟩
        rw[hx]at c0 hxl HT
        clear hx HO
        obtain⟨QQ,hQQ⟩:∃QQ:Prop,QQ=(r.path≠ []∧∀x∈r.keys.take (i+1),pathOk x):=⟨_,rfl⟩
        rw[←hQQ]at HT
        have HQ:=Lh hQQ
        clear hQQ
        have two:∀(ok2:Bool),True:=fun _=>trivial
        cases ok with
        | false=>
         go_wp2_with fail
         obtain⟨wz,hwz⟩:∃wz,wz=wr:=⟨_,rfl⟩
         subst hwz
         have hHH:Hid ((false:Bool)=true→QQ):=Lh fun h=>by cases h
         go_loopw [3,6] (fun x t wq=>∃(ok:Bool) (k:Nat),x= .bool ok∧t= .int .i64 k∧k≤i∧Dr wz wq∧Hid (ok=true→QQ)) (fun _ t _=>downV i t)
         case atStart=>exact⟨false,0,rfl,rfl,Nat.zero_le _,Dr.refl _,hHH⟩
         case round=>
          obtain⟨ok,k,rfl,rfl,hk,hD,HO⟩:=hrel
          have hk0:=nZ0 k
          have k1q:=hD.ext.keep l0r k1r
          have lq:w.heap.size< wr.heap.size:=Nat.lt_of_lt_of_le l0r hD.ext.size
          have cq:=hD.ext.keep lg c0
          by_cases hkl:k< i
          ·
           have hkI:(k:Int)< (i:Int):=by omega
           have hkJ:(k:Int)< (r.keys.length:Int):=by omega
           obtain⟨g',o',e',lg',_,ck⟩:=str_at (hvk.ext (hE1.trans ((hX).trans hD.ext))) k kA
           cases e'
           obtain⟨y,hy⟩:∃y,r.keys[k]=y:=⟨_,rfl⟩
           rw[hy]at ck
           clear hy
           cases ok with
           | false=>
            go_wp2_with fail
            go_quiet (fail)
            go_wp2_with fail
            go_roundw
            case rel=>exact⟨_,k+1,rfl,by go_num,by omega,hD.drewN _,HO⟩
            case measure=>exact mZ
           | true=>
            have HN:Hid QQ:=Lh (HO.out rfl)
            clear HO
            go_wp2_with fail
            go_quiet (fail)
            go_wp2_with fail
            go_roundw
            case rel=>exact⟨_,k+1,rfl,by go_num,by omega,hD.drewN _,Lh fun _=>HN.out⟩
            case measure=>exact mZ
          ·
           have hkI:¬(k:Int)< (i:Int):=by omega
           go_wp2_with fail
           go_roundw
           case rel=>exact⟨_,i+1,rfl,by go_num,by omega,(hX).trans hD.ext,Lh fun h=>by rw[←HQ.out];exact HO.out h⟩
           case measure=>exact mZ
        | true=>
         go_wp2_with fail
         refine(key12_any x hxl _).mono ?_
         rintro e w3 ⟨⟨b,rfl,hbk⟩,hB3⟩
         have hHH:Hid (b=true→QQ):=Lh fun h=>HT.out kI (hbk h)
         have hX3:=hX.trans hB3
         have k1s:=hB3.keep l0r k1r
         have l0s:w.heap.size< w3.heap.size:=Nat.lt_of_lt_of_le l0r hB3.size
         have c0s:=hB3.keep lg c0
         have lgs:g< w3.heap.size:=Nat.lt_of_lt_of_le lg hB3.size
         clear hbk HT k0r k1r l0r c0 lg hX hB3
         go_wp2_with fail
         go_loopw [3,6] (fun x t wq=>∃(ok:Bool) (k:Nat),x= .bool ok∧t= .int .i64 k∧k≤i∧Dr w3 wq∧Hid (ok=true→QQ)) (fun _ t _=>downV i t)
         case atStart=>exact⟨b,0,rfl,rfl,Nat.zero_le _,Dr.refl _,hHH⟩
         case round=>
          obtain⟨ok,k,rfl,rfl,hk,hD,HO⟩:=hrel
          have hk0:=nZ0 k
          have k1q:=hD.ext.keep l0s k1s
          have lq:w.heap.size< wr.heap.size:=Nat.lt_of_lt_of_le l0s hD.ext.size
          have cq:=hD.ext.keep lgs c0s
          by_cases hkl:k< i
          ·
           have hkI:(k:Int)< (i:Int):=by omega
           have hkJ:(k:Int)< (r.keys.length:Int):=by omega
           obtain⟨g',o',e',lg',_,ck⟩:=str_at (hvk.ext (hE1.trans ((hX3).trans hD.ext))) k kA
           cases e'
           obtain⟨y,hy⟩:∃y,r.keys[k]=y:=⟨_,rfl⟩
           rw[hy]at ck
           clear hy
           cases ok with
           | false=>
            go_wp2_with fail
            go_quiet (fail)
            go_wp2_with fail
            go_roundw
            case rel=>exact⟨_,k+1,rfl,by go_num,by omega,hD.drewN _,HO⟩
            case measure=>exact mZ
           | true=>
            have HN:Hid QQ:=Lh (HO.out rfl)
            clear HO
            go_wp2_with fail
            go_quiet (fail)
            go_wp2_with fail
            go_roundw
            case rel=>exact⟨_,k+1,rfl,by go_num,by omega,hD.drewN _,Lh fun _=>HN.out⟩
            case measure=>exact mZ
          ·
           have hkI:¬(k:Int)< (i:Int):=by omega
           go_wp2_with fail
           go_roundw
           case rel=>exact⟨_,i+1,rfl,by go_num,by omega,(hX3).trans hD.ext,Lh fun h=>by rw[←HQ.out];exact HO.out h⟩
           case measure=>exact mZ
       ·
        have hlI:¬(i:Int)< (r.keys.length:Int):=by omega
        have HN:Hid (ok=true→RuleOk r):=Lh fun h=>by have:=HO.out h;rw[List.take_of_length_le kA]at this;exact this
        clear HO
        go_wp2_with fail
        go_ret
        exact⟨⟨_,rfl,HN.out⟩,hE1.trans hX⟩
 ·
  have q1I:¬(0:Int)< (r.path.length:Int):=by omega
  have HNE:=Lh q1
  clear q1
  go_wp2_with fail
  rw[←HW1.out]
  clear q1I
  go_loopw [3,4] (fun x t wr=>∃(ok:Bool) (i:Nat),x= .bool ok∧t= .int .i64 i∧i≤r.path.length∧Ext w1 wr∧Hid (ok=true→r.path≠ [])) (fun _ t _=>downV r.path.length t)
  case atStart=>first | exact⟨true,0,rfl,rfl,Nat.zero_le _,Ext.refl _,Lh fun _=>HNE.out⟩ | exact⟨false,0,rfl,rfl,Nat.zero_le _,Ext.refl _,Lh fun h=>by cases h⟩
  case round=>
   obtain⟨ok,i,rfl,rfl,hi,hX,HO⟩:=hrel
   have hi0:=nZ0 i
   have k0r:=hX.keep l0 k0
   have k1r:=hX.keep l0 k1
   have l0r:w.heap.size< wr.heap.size:=Nat.lt_of_lt_of_le l0 hX.size
   by_cases hlt:i< r.path.length
   ·
    have hlI:(i:Int)< (r.path.length:Int):=by omega
    exact absurd (Nat.lt_of_le_of_lt (Nat.zero_le _) hlt) HNE.out
   ·
    have hlI:¬(i:Int)< (r.path.length:Int):=by omega
    clear hlt
    go_wp2_with fail
    go_loopw [3,5,6] (fun x t _ wr=>∃(ok:Bool) (i:Nat),x= .bool ok∧t= .int .i64 i∧i≤r.keys.length∧Ext w1 wr∧Hid (ok=true→r.path≠ []∧∀x∈r.keys.take i,pathOk x)) (fun _ t _ _=>downV r.keys.length t)
    case atStart=>exact⟨ok,0,rfl,rfl,Nat.zero_le _,hX,Lh fun h=>⟨HO.out h,by simp⟩⟩
    case round=>
     clear HO hX k0r k1r l0r hlI hi hi0
     obtain⟨ok,i,rfl,rfl,hi,hX,HO⟩:=hrel
     have hi0:=nZ0 i
     have k0r:=hX.keep l0 k0
     have k1r:=hX.keep l0 k1
     have l0r:w.heap.size< wr.heap.size:=Nat.lt_of_lt_of_le l0 hX.size
     by_cases hlt:i< r.keys.length
     ·
      have hlI:(i:Int)< (r.keys.length:Int):=by omega
      obtain⟨g,o,rfl,lg,_,c0⟩:=str_at (hvk.ext (hE1.trans hX)) i hlt
      have hxl:=HK.out _ (List.getElem_mem hlt)
      have HT:Hid ((ok=true)→pathOk r.keys[i]→(r.path≠ []∧∀x∈r.keys.take (i+1),pathOk x)):=Lh fun h1 h2=>⟨(HO.out h1).1,take_all hlt (HO.out h1).2 h2⟩
      obtain⟨x,hx⟩:∃x,r.keys[i]=x:=⟨_,rfl⟩
      rw[hx]at c0 hxl HT
      clear hx HO
      obtain⟨QQ,hQQ⟩:∃QQ:Prop,QQ=(r.path≠ []∧∀x∈r.keys.take (i+1),pathOk x):=⟨_,rfl⟩
      rw[←hQQ]at HT
      have HQ:=Lh hQQ
      clear hQQ
      have two:∀(ok2:Bool),True:=fun _=>trivial
      cases ok with
      | false=>
       go_wp2_with fail
       obtain⟨wz,hwz⟩:∃wz,wz=wr:=⟨_,rfl⟩
       subst hwz
       have hHH:Hid ((false:Bool)=true→QQ):=Lh fun h=>by cases h
       go_loopw [3,6] (fun x t wq=>∃(ok:Bool) (k:Nat),x= .bool ok∧t= .int .i64 k∧k≤i∧Dr wz wq∧Hid (ok=true→QQ)) (fun _ t _=>downV i t)
       case atStart=>exact⟨false,0,rfl,rfl,Nat.zero_le _,Dr.refl _,hHH⟩
       case round=>
        obtain⟨ok,k,rfl,rfl,hk,hD,HO⟩:=hrel
        have hk0:=nZ0 k
        have k1q:=hD.ext.keep l0r k1r
        have lq:w.heap.size< wr.heap.size:=Nat.lt_of_lt_of_le l0r hD.ext.size
        have cq:=hD.ext.keep lg c0
        by_cases hkl:k< i
        ·
         have hkI:(k:Int)< (i:Int):=by omega
         have hkJ:(k:Int)< (r.keys.length:Int):=by omega
         obtain⟨g',o',e',lg',_,ck⟩:=str_at (hvk.ext (hE1.trans ((hX).trans hD.ext))) k kA
         cases e'
         obtain⟨y,hy⟩:∃y,r.keys[k]=y:=⟨_,rfl⟩
         rw[hy]at ck
         clear hy
         cases ok with
         | false=>
          go_wp2_with fail
          go_quiet (fail)
          go_wp2_with fail
          go_roundw
          case rel=>exact⟨_,k+1,rfl,by go_num,by omega,hD.drewN _,HO⟩
          case measure=>exact mZ
         | true=>
          have HN:Hid QQ:=Lh (HO.out rfl)
          clear HO
          go_wp2_with fail
          go_quiet (fail)
          go_wp2_with fail
          go_roundw
          case rel=>exact⟨_,k+1,rfl,by go_num,by omega,hD.drewN _,Lh fun _=>HN.out⟩
          case measure=>exact mZ
        ·
         have hkI:¬(k:Int)< (i:Int):=by omega
         go_wp2_with fail
         go_roundw
         case rel=>exact⟨_,i+1,rfl,by go_num,by omega,(hX).trans hD.ext,Lh fun h=>by rw[←HQ.out];exact HO.out h⟩
         case measure=>exact mZ
      | true=>
       go_wp2_with fail
       refine(key12_any x hxl _).mono ?_
       rintro e w3 ⟨⟨b,rfl,hbk⟩,hB3⟩
       have hHH:Hid (b=true→QQ):=Lh fun h=>HT.out kI (hbk h)
       have hX3:=hX.trans hB3
       have k1s:=hB3.keep l0r k1r
       have l0s:w.heap.size< w3.heap.size:=Nat.lt_of_lt_of_le l0r hB3.size
       have c0s:=hB3.keep lg c0
       have lgs:g< w3.heap.size:=Nat.lt_of_lt_of_le lg hB3.size
       clear hbk HT k0r k1r l0r c0 lg hX hB3
       go_wp2_with fail
       go_loopw [3,6] (fun x t wq=>∃(ok:Bool) (k:Nat),x= .bool ok∧t= .int .i64 k∧k≤i∧Dr w3 wq∧Hid (ok=true→QQ)) (fun _ t _=>downV i t)
       case atStart=>exact⟨b,0,rfl,rfl,Nat.zero_le _,Dr.refl _,hHH⟩
       case round=>
        obtain⟨ok,k,rfl,rfl,hk,hD,HO⟩:=hrel
        have hk0:=nZ0 k
        have k1q:=hD.ext.keep l0s k1s
        have lq:w.heap.size< wr.heap.size:=Nat.lt_of_lt_of_le l0s hD.ext.size
        have cq:=hD.ext.keep lgs c0s
        by_cases hkl:k< i
        ·
         have hkI:(k:Int)< (i:Int):=by omega
         have hkJ:(k:Int)< (r.keys.length:Int):=by omega
         obtain⟨g',o',e',lg',_,ck⟩:=str_at (hvk.ext (hE1.trans ((hX3).trans hD.ext))) k kA
         cases e'
         obtain⟨y,hy⟩:∃y,r.keys[k]=y:=⟨_,rfl⟩
         rw[hy]at ck
         clear hy
         cases ok with
         | false=>
          go_wp2_with fail
          go_quiet (fail)
          go_wp2_with fail
          go_roundw
          case rel=>exact⟨_,k+1,rfl,by go_num,by omega,hD.drewN _,HO⟩
          case measure=>exact mZ
         | true=>
          have HN:Hid QQ:=Lh (HO.out rfl)
          clear HO
          go_wp2_with fail
          go_quiet (fail)
          go_wp2_with fail
          go_roundw
          case rel=>exact⟨_,k+1,rfl,by go_num,by omega,hD.drewN _,Lh fun _=>HN.out⟩
          case measure=>exact mZ
        ·
         have hkI:¬(k:Int)< (i:Int):=by omega
         go_wp2_with fail
         go_roundw
         case rel=>exact⟨_,i+1,rfl,by go_num,by omega,(hX3).trans hD.ext,Lh fun h=>by rw[←HQ.out];exact HO.out h⟩
         case measure=>exact mZ
     ·
      have hlI:¬(i:Int)< (r.keys.length:Int):=by omega
      have HN:Hid (ok=true→RuleOk r):=Lh fun h=>by have:=HO.out h;rw[List.take_of_length_le kA]at this;exact this
      clear HO
      go_wp2_with fail
      go_ret
      exact⟨⟨_,rfl,HN.out⟩,hE1.trans hX⟩
def placedS (l:List Rule) (x:Rule):Bool:=if 0≤findS x.path l 0 then false else if x.path.length=1 then decide (l.length=0)else decide (0≤findS (x.path.take (x.path.length - 1)) l 0)
theorem placed_any (l:List Rule) (x:Rule) (p:Nat→Prop) (vl vp vk:Value) (w:World) (hne:x.path≠ []) (hvl:Rep w p vl (rulesD l)) (hvp:Rep w p vp (strsD x.path)):
  Calls Tryz.prog 74 #[vl,.agg #[vp,vk]] w fun e w'=>e= .returned (.bool (placedS l x))∧Ext w w':=by
 obtain⟨la,lc,rfl,_,_⟩:=hvl.count z_rule kA
 obtain⟨pa,pc,rfl,hp1,hp2⟩:=hvp.count z_str kA
 have hlen:=List.length_pos_iff.2 hne
 obtain⟨g,o,rfl,lg,_⟩:=str_at hvp 0 hlen
 have HF:=Lh fun W (hE:Ext w W)=>find_q p p l x.path _ _ W (hvl.ext hE) (hvp.ext hE)
 have hsub:Rep w p (.slice (some ⟨g,o,none⟩) (x.path.length - 1) pc) (strsD (x.path.take (x.path.length - 1))):=by
  have:=hvp.take (x.path.length - 1) kA
  rw[flat_take _ 1 z_str]at this;exact this
 have HG:=Lh fun W (hE:Ext w W)=>find_q p p l (x.path.take (x.path.length - 1)) _ _ W (hvl.ext hE) (hsub.ext hE)
 have HS:Hid (placedS l x=if 0≤findS x.path l 0 then false else if x.path.length=1 then decide (l.length=0)else decide (0≤findS (x.path.take (x.path.length - 1)) l 0)):=Lh rfl
 obtain⟨R,hR⟩:∃R,placedS l x=R:=⟨_,rfl⟩
 obtain⟨F,hF⟩:∃F,findS x.path l 0=F:=⟨_,rfl⟩
 obtain⟨G,hG⟩:∃G,findS (x.path.take (x.path.length - 1)) l 0=G:=⟨_,rfl⟩
 rw[hF]at HF HS
 rw[hG]at HG HS
 rw[hR]at HS⊢
 have hE1:Ext w (w.alloc (.cells #[.slice (some ⟨g,o,none⟩) x.path.length pc,vk] 62)):=(Ext.refl w).alloc _
 obtain⟨w1,hw1⟩:∃w1,w.alloc (.cells #[.slice (some ⟨g,o,none⟩) x.path.length pc,vk] 62)=w1:=⟨_,rfl⟩
 have l0:w.heap.size< w1.heap.size:=by rw[←hw1];simp
 have k0:w1.cell? ⟨w.heap.size,0,none⟩=some (.slice (some ⟨g,o,none⟩) x.path.length pc):=by rw[←hw1];simp[go_sem]
 rw[hw1]at hE1
 have HW1:=Lh hw1
 clear hne hF hG hR hw1
 go_enter Tryz.func74,Tryz.ntmps74
 go_wp2_with fail
 rw[HW1.out]
 clear HW1
 refine(HF.out _ hE1).mono ?_
 rintro e w2 ⟨rfl,hD2⟩
 have k2:=hD2.ext.keep l0 k0
 have l2:w.heap.size< w2.heap.size:=Nat.lt_of_lt_of_le l0 hD2.ext.size
 have hE2:=hE1.trans hD2.ext
 by_cases hf:0≤F
 ·
  have HN:Hid (false=R):=Lh (by rw[HS.out,if_pos hf])
  clear HS
  go_wp2_with fail
  go_ret
  exact⟨ret_bool HN.out,hE2⟩
 ·
  by_cases h1:x.path.length=1
  ·
   have h1I:((x.path.length:Int)==1)=true:=by rw[h1];rfl
   have HN:Hid (decide (l.length=0)=R):=Lh (by rw[HS.out,if_neg hf,if_pos h1])
   clear HS h1 HG hsub
   by_cases hl0:l.length=0
   ·
    have hq:((l.length:Int)==0)=true:=by rw[hl0];rfl
    have HN2:Hid (true=R):=Lh (by rw[←HN.out];simp[hl0])
    clear HN hl0
    go_wp2_with fail
    go_ret
    exact⟨ret_bool HN2.out,hE2⟩
   ·
    have hq:((l.length:Int)==0)=false:=by rw[beq_eq_false_iff_ne];omega
    have HN2:Hid (false=R):=Lh (by rw[←HN.out];simpa using hl0)
    clear HN hl0
    go_wp2_with fail
    go_ret
    exact⟨ret_bool HN2.out,hE2⟩
  ·
   have h1I:((x.path.length:Int)==1)=false:=by rw[beq_eq_false_iff_ne];omega
   have HN:Hid (decide (0≤G)=R):=Lh (by rw[HS.out,if_neg hf,if_neg h1])
   obtain⟨m,hm⟩:∃m:Nat,x.path.length - 1=m:=⟨_,rfl⟩
   rw[hm]at HG
   have hmI:(x.path.length:Int) - 1=(m:Int):=by omega
   have hm0:=nZ0 m
   have hmc:(m:Int)≤(pc:Int):=by omega
   have HM:=Lh (And.intro hm hlen)
   clear HS hsub hm h1
   go_wp2_with fail
   refine(HG.out _ hE2).mono ?_
   rintro e w3 ⟨rfl,hD3⟩
   by_cases hg:0≤G
   ·
    have HN2:Hid (true=R):=Lh (by rw[←HN.out];simpa using hg)
    go_wp2_with fail
    go_ret
    exact⟨ret_bool HN2.out,hE2.trans hD3.ext⟩
   ·
    have HN2:Hid (false=R):=Lh (by rw[←HN.out];simpa using hg)
    go_wp2_with fail
    go_ret
    exact⟨ret_bool HN.out,hE2.trans hD3.ext⟩
def MayOk (l:List Rule):Prop:=1≤l.length∧l.length≤64∧∀(i:Nat) (h:i< l.length),RuleOk l[i]∧placedS (l.take i) l[i]=true
end Go.Proofs.YtngmgjodcnknoaaGreatDoor
