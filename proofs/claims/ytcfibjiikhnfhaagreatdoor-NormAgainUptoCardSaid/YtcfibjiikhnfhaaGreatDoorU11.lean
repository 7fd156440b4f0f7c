/-
 xout:chars,plain,bare,attrs;what a tree that may be written is. Helper lemmas;no statement of the seat is proved here.
-/
import Derived.Test.YtcfibjiikhnfhaaGreatDoorU10
import Derived.Deep.DeepCutAuto
import Derived.StringKeys
import Derived.Carry
import Derived.Test.YtcfibjiikhnfhaaGreatDoorU9
namespace Go.Proofs.YtcfibjiikhnfhaaGreatDoor
open Go.RowKit
open Go.Maps (Keyed)
set_option maxHeartbeats 32000000
set_option maxRecDepth 100000
set_option linter.unusedVariables false
set_option linter.unusedSimpArgs false
def AF (w:World):Prop:=w.cell? ⟨5,120,none⟩=some (.int .u16 88)∧w.cell? ⟨5,88,none⟩=some (.int .u16 120)∧w.cell? ⟨5,109,none⟩=some (.int .u16 77)∧w.cell? ⟨5,77,none⟩=some (.int .u16 109)∧w.cell? ⟨5,108,none⟩=some (.int .u16 76)∧w.cell? ⟨5,76,none⟩=some (.int .u16 108)
theorem AF.ext {w w':World} (h:AF w) (hE:Ext w w'):AF w':=by
 have k:∀{o:Nat} {v:Value},w.cell? ⟨5,o,none⟩=some v→w'.cell? ⟨5,o,none⟩=some v:=fun e=>hE.keep (World.block_lt_of_cell? w _ e) e
 exact⟨k h.1,k h.2.1,k h.2.2.1,k h.2.2.2.1,k h.2.2.2.2.1,k h.2.2.2.2.2⟩
structure EN (w:World):Prop where
 tabs:Tabs w
 mx:MaxV w
 cs:Lib.CaseVar 4 Lib.caseA w
 af:AF w
theorem EN.ext {w w':World} (h:EN w) (hE:Ext w w'):EN w':=⟨Utf8Tabs_below h.tabs hE,h.mx.ext hE,Lib.CaseVar_below h.cs hE,h.af.ext hE⟩
theorem EN.all {w:World} (h:EN w):∀W,Ext w W→Tabs W:=fun W hE=>(h.ext hE).tabs
def chE (s:Bytes):Bool:=decide (badS s< 0)
def plE (s:Bytes):Bool:=chE s && decide (Lib.indexByte s 13< 0)
def cmE (s:Bytes):Bool:=plE s && (!Lib.contains s [45,45] && !Lib.hasSuffix s [45])
def firstI (s:Bytes):Int:=((s.getD 0 0).toNat:Int)
def piE (nm tx:Bytes):Bool:=nameE nm && (decide (Lib.toLowerD nm≠ [120,109,108]) && (plE tx && (!Lib.contains tx [63,62] && !(decide (tx≠ []) && blankI (firstI tx)))))
theorem chE_any (s:Bytes) (hs:s.length≤16777216) (w:World) (hT:EN w):Calls Tryz.prog 39 #[.string (bs s)] w fun e w'=>e= .returned (.bool (chE s))∧Ext w w':=by
 obtain⟨bv,w1,hcv,hE1,hbv⟩:=conv_bytes w s (by omega)
 have HB:=Lh (bad_any s hs _ _ w1 (hT.ext hE1).all hbv)
 unfold chE
 obtain⟨r,hr⟩:∃r,badS s=r:=⟨_,rfl⟩
 rw[hr]at HB⊢
 clear hr hbv hT
 go_enter Tryz.func39,Tryz.ntmps39
 by_cases h0:r< 0
 all_goals (
  go_wp2_with fail
  refine HB.out.mono ?_
  rintro e w2 ⟨rfl,hX⟩
  go_wp2_with fail
  go_ret
  exact⟨ret_bool (by first | rfl | exact decide_eq_true h0 | exact decide_eq_false h0 | exact(decide_eq_true h0).symm | exact(decide_eq_false h0).symm),hE1.trans hX⟩)
theorem plE_any (s:Bytes) (hs:s.length≤16777216) (w:World) (hT:EN w):Calls Tryz.prog 40 #[.string (bs s)] w fun e w'=>e= .returned (.bool (plE s))∧Ext w w':=by
 have HC:=Lh (chE_any s hs w hT)
 have HI:Hid (∀W,Calls Tryz.prog 77 #[.string (bs s),.int .u8 13] W fun e w'=>e= .returned (.int .i64 (Lib.indexByte s 13))∧w'=W):=Lh fun W=>by
  have:=Tryz.strings_IndexByte (bs s) 13 W
  rw[show(bs s).data.toList=s from by simp[bs]]at this
  exact this
 unfold plE
 obtain⟨b,hb⟩:∃b,chE s=b:=⟨_,rfl⟩
 obtain⟨r,hr⟩:∃r,Lib.indexByte s 13=r:=⟨_,rfl⟩
 rw[hb]at HC⊢
 rw[hr]at HI⊢
 clear hb hr hT
 go_enter Tryz.func40,Tryz.ntmps40
 cases b with
 | false=>
  go_wp2_with fail
  refine HC.out.mono ?_
  rintro e w2 ⟨rfl,hX⟩
  go_wp2_with fail
  go_ret
  exact⟨rfl,hX⟩
 | true=>
  go_wp2_with fail
  refine HC.out.mono ?_
  rintro e w2 ⟨rfl,hX⟩
  go_wp2_with fail
  refine(HI.out _).mono ?_
  rintro e w3 ⟨rfl,rfl⟩
  by_cases h0:r< 0
  all_goals (
   go_wp2_with fail
   go_ret
   exact⟨ret_bool (by first | rfl | simp[h0]),hX⟩)
theorem cntA_len:∀l:List Attr,l.length≤cntA l
 | []=>Nat.le_refl _
 | a::r=>by have:=cntA_len r;rw[cntA,List.length_cons];omega
theorem bare_any (n:Node) (va vk:Value) (p:Nat→Prop) (w:World) (hcnt:cntN n≤1048576) (hva:Rep w p va (attrsD n.attrs)) (hvk:Rep w p vk (nodesD n.kids)):
  Calls Tryz.prog 38 #[.agg #[.int .i64 n.kind,.string (bs n.name),.string (bs n.text),va,vk]] w fun e w'=>e= .returned (.bool (decide (n.attrs= []) && decide (n.kids= [])))∧Ext w w':=by
 obtain⟨ba,ca,rfl,_,_⟩:=hva.count z_attr (by omega)
 obtain⟨bk,ck,rfl,_,_⟩:=hvk.count z_node (by omega)
 have ha:decide (n.attrs= [])=decide (n.attrs.length=0):=by rw[decide_eq_decide];exact List.length_eq_zero_iff.symm
 have hk:decide (n.kids= [])=decide (n.kids.length=0):=by rw[decide_eq_decide];exact List.length_eq_zero_iff.symm
 rw[ha,hk]
 have hcl:=cntL_len n.kids
 have hal:=cntA_len n.attrs
 have hck:=cnt_kids n
 have hca:n.attrs.length≤1048576:=by omega
 have hkk:n.kids.length≤1048576:=by omega
 obtain⟨na,hna⟩:∃k,n.attrs.length=k:=⟨_,rfl⟩
 obtain⟨nk,hnk⟩:∃k,n.kids.length=k:=⟨_,rfl⟩
 rw[hna]at hca⊢
 rw[hnk]at hkk⊢
 clear hna hnk ha hk hcl hck hal
 obtain⟨w1,hw1⟩:∃W,w.alloc (.cells #[.int .i64 n.kind,.string (bs n.name),.string (bs n.text),.slice ba na ca,.slice bk nk ck] 26)=W:=⟨_,rfl⟩
 have hE1:Ext w w1:=by rw[←hw1];exact(Ext.refl w).alloc _
 have HX:=Lh hE1
 clear hw1 hE1 hva hvk
 go_enter Tryz.func38,Tryz.ntmps38
 by_cases h1:na=0
 ·
  have q1:((na:Int)==0)=true:=by rw[h1];rfl
  by_cases h2:nk=0
  ·
   have q2:((nk:Int)==0)=true:=by rw[h2];rfl
   rw[decide_eq_true h1,decide_eq_true h2]
   clear h1 h2
   go_wp2_with fail
   go_ret
   exact⟨rfl,(Ext.refl w).alloc _⟩
  ·
   have q2:((nk:Int)==0)=false:=by rw[beq_eq_false_iff_ne];omega
   rw[decide_eq_true h1,decide_eq_false h2]
   clear h1 h2
   go_wp2_with fail
   go_ret
   exact⟨rfl,(Ext.refl w).alloc _⟩
 ·
  have q1:((na:Int)==0)=false:=by rw[beq_eq_false_iff_ne];omega
  rw[decide_eq_false h1]
  clear h1
  go_wp2_with fail
  go_ret
  exact⟨rfl,(Ext.refl w).alloc _⟩
def attG:List Bytes→List Attr→Bool
 | _,[]=>true
 | seen,a::r=>if a.n∈seen then false else nameE a.n && (chE a.v && attG (a.n::seen) r)
def attE (la:List Attr):Bool:=decide ((la.map (·.n)).Nodup) && la.all fun a=>nameE a.n && chE a.v
theorem attG_iff:∀(l:List Attr) (seen:List Bytes),attG seen l=true↔(∀a∈l,a.n∉seen)∧(l.map (·.n)).Nodup∧∀a∈l,nameE a.n=true∧chE a.v=true
 | [],seen=>by simp[attG]
 | a::r,seen=>by
  have ih:=attG_iff r (a.n::seen)
  unfold attG
  by_cases h:a.n∈seen
  ·
   rw[if_pos h]
   exact⟨fun e=>(by cases e),fun e=>absurd h (e.1 a (by simp))⟩
  ·
   rw[if_neg h,Bool.and_eq_true,Bool.and_eq_true,ih]
   constructor
   ·
    rintro⟨h1,h2,h3,h4,h5⟩
    refine⟨fun x hx=> ?_,?_,fun x hx=> ?_⟩
    ·
     rcases List.mem_cons.1 hx with rfl | hx
     ·
      exact h
     ·
      exact fun e=>h3 x hx (List.mem_cons_of_mem _ e)
    ·
     rw[List.map_cons,List.nodup_cons]
     refine⟨fun e=> ?_,h4⟩
     obtain⟨x,hx,e⟩:=List.mem_map.1 e
     exact h3 x hx (by rw[e];simp)
    ·
     rcases List.mem_cons.1 hx with rfl | hx
     ·
      exact⟨h1,h2⟩
     ·
      exact h5 x hx
   ·
    rintro⟨h1,h2,h3⟩
    rw[List.map_cons,List.nodup_cons]at h2
    refine⟨(h3 a (by simp)).1,(h3 a (by simp)).2,fun x hx e=> ?_,h2.2,fun x hx=>h3 x (List.mem_cons_of_mem _ hx)⟩
    rcases List.mem_cons.1 e with e | e
    ·
     exact h2.1 (List.mem_map.2 ⟨x,hx,e⟩)
    ·
     exact h1 x (List.mem_cons_of_mem _ hx) e
theorem attG_eq (l:List Attr):attG [] l=attE l:=by
 rw[Bool.eq_iff_iff,attG_iff]
 unfold attE
 rw[Bool.and_eq_true,decide_eq_true_eq,List.all_eq_true]
 simp
def strV (n:Bytes):Value:= .string (bs n)
def entE (seen:List Bytes):List (Value×Value):=seen.map fun n=>(strV n,.int .i64 1)
theorem strV_inj {a b:Bytes} (h:strV a=strV b):a=b:=by
 unfold strV at h
 exact bs_inj' (Value.string.inj h)
theorem lawS:Keyed Tryz.prog 9:=Go.Maps.string_keyed (by kernel_rfl)
theorem keyS_of (p:Bytes) (h:p.length≤9223372036854775807):∃l,keyOf Tryz.prog 9 (strV p)=some l:=by
 have hu:Tryz.prog.underlying 9=some .string:=by kernel_rfl
 exact⟨_,WideMaps.keyOf_string_mk hu (by rw[bs_size];exact h)⟩
theorem grown_cell {w w':World} {b:Nat} (hg:w.grownBy w' (some b)) {q:Addr} (hl:q.block< w.heap.size) (hne:b≠q.block) {v:Value} (h:w.cell? q=some v):w'.cell? q=some v:=by
 have:=hg.block q.block hl (by simp[Ne.symm hne])
 unfold World.cell? at h⊢
 rw[this];exact h
theorem attrsF_any (l:List Attr) (hcnt:cntA l≤1048576) (p:Nat→Prop) (v:Value) (w:World) (hT:EN w) (h:Rep w p v (attrsD l)):
  Calls Tryz.prog 36 #[v] w fun e w'=>e= .returned (.bool (attE l))∧Ext w w':=by
 obtain⟨a,c,rfl,hc1,hc2⟩:=h.count z_attr (by omega)
 obtain⟨R,hR⟩:∃R,attE l=R:=⟨_,rfl⟩
 rw[hR]
 have HR:Hid (attG [] l=R):=Lh (by rw[attG_eq];exact hR)
 have HT:=Lh hT
 have hll:=cntA_len l
 have HC0:=Lh (And.intro hcnt hll)
 clear hR hT hll
 have hmm:= @run_makeMap Tryz.prog
 go_enter Tryz.func36,Tryz.ntmps36
 go_wp2_with fail
 obtain⟨w1,hw1⟩:∃W,w.alloc (.map #[] 0)=W:=⟨_,rfl⟩
 obtain⟨b,hb⟩:∃b,w.heap.size=b:=⟨_,rfl⟩
 have hM1:MapE Tryz.prog 9 w1 b (entE []):=by rw[←hw1,←hb];exact MapE.made w _ _
 have hE1:Ext w w1:=by rw[←hw1];exact(Ext.refl w).alloc _
 have HBW:=Lh hb
 rw[hw1,hb]
 clear hw1 hb hmm
 go_loopw [5,9] (fun _ t wr=>∃(i:Nat) (seen:List Bytes),t= .int .i64 i∧i≤l.length∧Ext w wr∧Hid (MapE Tryz.prog 9 wr b (entE seen)∧seen.length≤i∧attG seen (l.drop i)=R)) (fun _ t _=>downV l.length t)
 case atStart=>exact⟨0,[],rfl,Nat.zero_le _,hE1,Lh ⟨hM1,Nat.le_refl _,HR.out⟩⟩
 case round=>
  obtain⟨i,seen,rfl,hi,hX,HI⟩:=hrel
  have hi0:(0:Int)≤(i:Int):=by omega
  by_cases hlt:i< l.length
  ·
   have hlI:(i:Int)< (l.length:Int):=by omega
   obtain⟨ga,oa,rfl,lga,_,d1,d2⟩:=attr_at (h.ext hX) i hlt
   have hle:=attr_le l i hlt
   have HS:Hid (attG seen (l.drop i)=if l[i].n∈seen then false else nameE l[i].n && (chE l[i].v && attG (l[i].n::seen) (l.drop (i+1)))):=Lh (by rw[drop_one l i hlt];rfl)
   obtain⟨y,hy⟩:∃y,l[i]=y:=⟨_,rfl⟩
   rw[hy]at d1 d2 HS hle
   obtain⟨w5,hw5⟩:∃W,wr.alloc (.cells #[.string (bs y.n),.string (bs y.v)] 114)=W:=⟨_,rfl⟩
   obtain⟨g5,hg5⟩:∃g,wr.heap.size=g:=⟨_,rfl⟩
   have hE5:Ext wr w5:=by rw[←hw5];exact(Ext.refl wr).alloc _
   have l5:g5< w5.heap.size:=by rw[←hw5,←hg5];simp
   have n0:w5.cell? ⟨g5,0,none⟩=some (.string (bs y.n)):=by rw[←hw5,←hg5];simp[go_sem]
   have n1:w5.cell? ⟨g5,1,none⟩=some (.string (bs y.v)):=by rw[←hw5,←hg5];simp[go_sem]
   have hMr:=HI.out.1
   have hM5:MapE Tryz.prog 9 w5 b (entE seen):=hMr.block (Below.block hE5 b hMr.lt)
   have hbg:b≠g5:=by have:=hMr.lt;omega
   have hHy:y.n.length≤1048576∧y.v.length≤1048576:=by have:=HC0.out.1;omega
   obtain⟨kl,hkl⟩:=keyS_of y.n (by omega)
   have hul:Tryz.prog.underlying 139=some (.map 9 3):=by kernel_rfl
   have hlen:(entE seen).length< maxLen:=by unfold entE maxLen;rw[List.length_map];have:=HI.out.2.1;have:=HC0.out;omega
   have HX5:=Lh (And.intro (hX.trans hE5) hHy)
   have HII:=Lh HI.out.2
   have HW:=Lh (And.intro hw5 hg5)
   clear hw5 hg5 hE5 hMr HI hX hle hHy hy
   go_upto_region 5 with fail
   rw[HW.out.1,HW.out.2]
   clear d1 d2
   by_cases hin:y.n∈seen
   ·
    obtain⟨s1,s2,hs⟩:=List.append_of_mem hin
    obtain rfl:false=R:=by rw[←HII.out.2,HS.out,if_pos hin]
    have hkk:=hM5.keys
    have hpm:(entE seen).Perm ((strV y.n,.int .i64 1)::entE (s1++s2)):=by
     unfold entE;rw[hs,List.map_append,List.map_append,List.map_cons];exact List.perm_middle
    have hno:∀x∈entE (s1++s2),x.1≠strV y.n:=fun x hx e=>(List.pairwise_cons.1 (hkk.perm hpm).2).1 x hx e.symm
    have k1:=hM5.look lawS (t:=139) (e:=3) hul (z:= .int .i64 0) (Tryz.zeroValue3 w5) (key:=strV y.n) hkl (v:= .int .i64 1) (.inl (hpm.mem_iff.2 (by simp)))
    obtain⟨w6,k2,hM6,hg6⟩:=hM5.store lawS (t:=139) (e:=3) hul (E0:=entE (s1++s2)) (key:=strV y.n) (v:= .int .i64 2) hkl (.inr ⟨_,hpm⟩) hno hlen
    have k3:=hM6.look lawS (t:=139) (e:=3) hul (z:= .int .i64 0) (Tryz.zeroValue3 w6) (key:=strV y.n) hkl (v:= .int .i64 2) (.inl (by simp))
    have m0:=grown_cell hg6 (q:=⟨g5,0,none⟩) l5 hbg n0
    have m1:=grown_cell hg6 (q:=⟨g5,1,none⟩) l5 hbg n1
    have hX6:Ext w w6:=Below.grown HX5.out.1 hg6 HX5.out.1.size fun k hk=>by cases hk;rw[←HBW.out];exact Nat.le_refl _
    unfold strV at k1 k2 k3
    have HX6:=Lh hX6
    clear hs hkk hpm hno hM5 hM6 hg6 hX6 hin hkl hlen
    go_wp2_with fail
    go_ret
    exact⟨rfl,HX6.out⟩
   ·
    have hno:∀x∈entE seen,x.1≠strV y.n:=fun x hx e=>by
     obtain⟨n,hn,rfl⟩:=List.mem_map.1 hx
     exact hin (strV_inj e ▸ hn)
    have k1:=hM5.look lawS (t:=139) (e:=3) hul (z:= .int .i64 0) (Tryz.zeroValue3 w5) (key:=strV y.n) hkl (v:= .int .i64 0) (.inr ⟨hno,rfl⟩)
    obtain⟨w6,k2,hM6,hg6⟩:=hM5.store lawS (t:=139) (e:=3) hul (E0:=entE seen) (key:=strV y.n) (v:= .int .i64 1) hkl (.inl (List.Perm.refl _)) hno hlen
    have k3:=hM6.look lawS (t:=139) (e:=3) hul (z:= .int .i64 0) (Tryz.zeroValue3 w6) (key:=strV y.n) hkl (v:= .int .i64 1) (.inl (by simp))
    have m0:=grown_cell hg6 (q:=⟨g5,0,none⟩) l5 hbg n0
    have m1:=grown_cell hg6 (q:=⟨g5,1,none⟩) l5 hbg n1
    have hX6:Ext w w6:=Below.grown HX5.out.1 hg6 HX5.out.1.size fun k hk=>by cases hk;rw[←HBW.out];exact Nat.le_refl _
    unfold strV at k1 k2 k3
    have HX6:=Lh (And.intro hX6 hM6)
    have hg5l:g5< w6.heap.size:=Nat.lt_of_lt_of_le l5 hg6.size
    have HN:=Lh (name_any y.n (by have:=HX5.out.2;omega) w6 (HT.out.ext hX6).all)
    have HV:=Lh fun W (hE:Ext w6 W)=>chE_any y.v (by have:=HX5.out.2;omega) W ((HT.out.ext hX6).ext hE)
    have HR2:Hid ((nameE y.n && (chE y.v && attG (y.n::seen) (l.drop (i+1))))=R):=Lh (by rw[←HII.out.2,HS.out,if_neg hin])
    obtain⟨nb,hnb⟩:∃b,nameE y.n=b:=⟨_,rfl⟩
    obtain⟨cb,hcb⟩:∃b,chE y.v=b:=⟨_,rfl⟩
    rw[hnb]at HN HR2
    rw[hcb]at HV HR2
    clear hno hM5 hM6 hg6 hX6 hin hkl hlen HS hnb hcb
    cases nb with
    | false=>
     obtain rfl:false=R:=HR2.out
     go_wp2_with fail
     refine HN.out.mono ?_
     rintro e w7 ⟨rfl,hX7⟩
     go_wp2_with fail
     go_ret
     exact⟨rfl,HX6.out.1.trans hX7⟩
    | true=>
     go_wp2_with fail
     refine HN.out.mono ?_
     rintro e w7 ⟨rfl,hX7⟩
     have HX7:=Lh hX7
     have r1:=hX7.keep (by have:=hg5l;omega) m1
     replace HV:=Lh (HV.out w7 hX7)
     clear HN hX7 k1 k2 k3 n0 n1 m0 m1
     cases cb with
     | false=>
      obtain rfl:false=R:=HR2.out
      go_wp2_with fail
      refine HV.out.mono ?_
      rintro e w8 ⟨rfl,hX8⟩
      go_wp2_with fail
      go_ret
      exact⟨rfl,HX6.out.1.trans (HX7.out.trans hX8)⟩
     | true=>
      have HN:Hid (attG (y.n::seen) (l.drop (i+1))=R):=Lh HR2.out
      clear HR2
      go_wp2_with fail
      refine HV.out.mono ?_
      rintro e w8 ⟨rfl,hX8⟩
      go_wp2_with fail
      go_roundw
      case rel=>exact⟨i+1,y.n::seen,by go_num,by omega,HX6.out.1.trans (HX7.out.trans hX8),Lh ⟨HX6.out.2.block (Below.block (HX7.out.trans hX8) b HX6.out.2.lt),by rw[List.length_cons];have:=HII.out.1;omega,HN.out⟩⟩
      case measure=>simp only[downV];omega
  ·
   have hlI:¬(i:Int)< (l.length:Int):=by omega
   obtain rfl:true=R:=by have:=HI.out.2.2;rw[List.drop_of_length_le (by omega)]at this;exact this
   clear HI
   go_wp2_with fail
   go_ret
   exact⟨rfl,hX⟩
def leafE (k:Int) (nm tx:Bytes):Bool:=if k=2 then decide (nm= []) && (decide (tx≠ []) && chE tx)else if k=3 then decide (nm= []) && cmE tx else if k=4 then piE nm tx else false
mutual
def fairE:Node→Bool
 | .mk k nm tx la ks=>if k=1 then nameE nm && decide (tx= []) && attE la && kidE ks 0 else decide (la= []) && decide (ks= []) && leafE k nm tx
def kidE:List Node→Int→Bool
 | [],_=>true
 | k::r,was=>fairE k && !(decide (was=2) && decide (k.kind=2)) && kidE r k.kind
end
theorem fairE_eq (n:Node):fairE n=if n.kind=1 then nameE n.name && decide (n.text= []) && attE n.attrs && kidE n.kids 0 else decide (n.attrs= []) && decide (n.kids= []) && leafE n.kind n.name n.text:=by
 cases n;rw[fairE];rfl
theorem kidE_mem:∀(ks:List Node) (w:Int) (k:Node),kidE ks w=true→k∈ks→fairE k=true
 | x::r,w,k,h,hm=>by
  rw[kidE,Bool.and_eq_true,Bool.and_eq_true]at h
  rcases List.mem_cons.1 hm with rfl | hm
  ·
   exact h.1.1
  ·
   exact kidE_mem r _ k h.2 hm
mutual
theorem fair_nd:∀n:Node,fairE n=true→ndN n
 | .mk k nm tx la ks,h=>by
  rw[fairE]at h
  rw[ndN]
  split at h
  ·
   rw[Bool.and_eq_true,Bool.and_eq_true]at h
   have ha:=h.1.2
   unfold attE at ha
   rw[Bool.and_eq_true,decide_eq_true_eq]at ha
   exact⟨ha.1,fair_ndL ks 0 h.2⟩
  ·
   simp only[Bool.and_eq_true,decide_eq_true_eq]at h
   rw[h.1.1,h.1.2]
   exact⟨by simp,trivial⟩
theorem fair_ndL:∀(ks:List Node) (w:Int),kidE ks w=true→ndL ks
 | [],_,_=>trivial
 | k::r,w,h=>by
  rw[kidE,Bool.and_eq_true,Bool.and_eq_true]at h
  rw[ndL]
  exact⟨fair_nd k h.1.1,fair_ndL r _ h.2⟩
end
theorem isE_false {l:Bytes} (h:l≠ []):l.isEmpty=false:=by cases l with | nil=>exact absurd rfl h | cons _ _=>rfl
theorem contS_any (s t:Bytes) (hs:s.length≤16777216) (w:World) (hT:EN w):Calls Tryz.prog 41 #[.string (bs s),.string (bs t)] w fun e w'=>e= .returned (.bool (Lib.contains s t))∧Ext w w':=by
 obtain⟨m,hm⟩:=hT.mx
 have h:=Any.strings_Contains {Tryz.laysM144 with} (bs s) (bs t) m w (by rw[bs_size];omega) hm
 rw[show(bs s).data.toList=s from by simp[bs],show(bs t).data.toList=t from by simp[bs]]at h
 exact h.mono fun e w' ⟨he,hw⟩=>⟨he,by subst hw;exact Ext.refl _⟩
theorem suffS_any (s t:Bytes) (hs:s.length≤16777216) (w:World):Calls Tryz.prog 42 #[.string (bs s),.string (bs t)] w fun e w'=>e= .returned (.bool (Lib.hasSuffix s t))∧Ext w w':=by
 have h:=Tryz.strings_HasSuffix (bs s) (bs t) w (by rw[bs_size];omega)
 rw[show(bs s).data.toList=s from by simp[bs],show(bs t).data.toList=t from by simp[bs]]at h
 exact h.mono fun e w' ⟨he,hw⟩=>⟨he,by subst hw;exact Ext.refl _⟩
theorem lowS_any (s:Bytes) (hs:s.length≤16777216) (w:World) (hT:EN w):Calls Tryz.prog 44 #[.string (bs s)] w fun e w'=>e= .returned (.string (bs (Lib.toLowerD s)))∧Ext w w':=by
 have h:=Tryz.strings_ToLower_any (bs s) w (by rw[bs_size];omega) hT.cs hT.tabs
 rw[show(bs s).data.toList=s from by simp[bs]]at h
 exact h
def FairF (N:Nat):Prop:=∀(n:Node) (va vk:Value) (p:Nat→Prop) (w:World),nsz n< N→cntN n≤1048576→EN w→Rep w p va (attrsD n.attrs)→Rep w p vk (nodesD n.kids)→
 Calls Tryz.prog 20 #[.agg #[.int .i64 n.kind,.string (bs n.name),.string (bs n.text),va,vk]] w fun e w'=>e= .returned (.bool (fairE n))∧Ext w w'
theorem kidsF_any (N:Nat) (ih:FairF N) (ks:List Node) (hN:∀k∈ks,nsz k< N) (hcnt:cntL ks≤1048576) (p:Nat→Prop) (v:Value) (w:World) (hT:EN w) (h:Rep w p v (nodesD ks)):
  Calls Tryz.prog 37 #[v] w fun e w'=>e= .returned (.bool (kidE ks 0))∧Ext w w':=by
 obtain⟨a,c,rfl,hc1,hc2⟩:=h.count z_node (by omega)
 obtain⟨R,hR⟩:∃R,kidE ks 0=R:=⟨_,rfl⟩
 rw[hR]
 have HR:=Lh hR
 have HT:=Lh hT
 have HN:=Lh hN
 have hll:=cntL_len ks
 have HC:=Lh hcnt
 have hkl:ks.length≤1048576:=by omega
 clear hR hT hN hll hcnt
 go_enter Tryz.func37,Tryz.ntmps37
 go_wp2_with fail
 go_loopw [3,5,8] (fun wv _ t wr=>∃(i:Nat) (m:Int),t= .int .i64 i∧wv= .int .i64 m∧i≤ks.length∧Ext w wr∧Hid (kidE (ks.drop i) m=R)) (fun _ _ t _=>downV ks.length t)
 case atStart=>exact⟨0,0,rfl,rfl,Nat.zero_le _,Ext.refl _,HR⟩
 case round=>
  obtain⟨i,m,rfl,rfl,hi,hX,HI⟩:=hrel
  have hi0:(0:Int)≤(i:Int):=by omega
  by_cases hlt:i< ks.length
  ·
   have hlI:(i:Int)< (ks.length:Int):=by omega
   obtain⟨gk,ok,za,zk,rfl,lgk,_,e0,e1,e2,e3,e4,hza,hzk⟩:=node_at (h.ext hX) i hlt
   have hkc:=kid_le ks i hlt
   have hnz:=HN.out _ (List.getElem_mem hlt)
   have HS:Hid (kidE (ks.drop i) m=(fairE ks[i] && !(decide (m=2) && decide (ks[i].kind=2)) && kidE (ks.drop (i+1)) ks[i].kind)):=Lh (by rw[drop_one ks i hlt,kidE])
   obtain⟨y,hy⟩:∃y,ks[i]=y:=⟨_,rfl⟩
   rw[hy]at e0 e1 e2 hza hzk hkc hnz HS
   obtain⟨zab,zac,rfl,_,_⟩:=hza.count z_attr (by omega)
   obtain⟨zkb,zkc,rfl,_,_⟩:=hzk.count z_node (by omega)
   obtain⟨w5,hw5⟩:∃W,wr.alloc (.cells #[.int .i64 y.kind,.string (bs y.name),.string (bs y.text),.slice zab y.attrs.length zac,.slice zkb y.kids.length zkc] 26)=W:=⟨_,rfl⟩
   obtain⟨g5,hg5⟩:∃g,wr.heap.size=g:=⟨_,rfl⟩
   have hE5:Ext wr w5:=by rw[←hw5];exact(Ext.refl wr).alloc _
   have hb5:B5 w5 g5 y (.slice zab y.attrs.length zac) (.slice zkb y.kids.length zkc):=by rw[←hw5,←hg5];exact b5_box wr y _ _
   have HF:=Lh (ih y _ _ p w5 hnz (by have:=HC.out;omega) (HT.out.ext (hX.trans hE5)) (hza.ext hE5) (hzk.ext hE5))
   have HX:=Lh (hX.trans hE5)
   have HB5:=Lh hb5
   have HW:=Lh (And.intro hw5 hg5)
   have n0:=hb5.c0;have n1:=hb5.c1;have n2:=hb5.c2;have n3:=hb5.c3;have n4:=hb5.c4
   clear hy hza hzk hkc hnz hw5 hg5 hE5 hX hb5
   go_upto_region 5 with fail
   rw[HW.out.1,HW.out.2]
   clear e0 e1 e2 e3 e4
   obtain⟨fb,hfb⟩:∃b,fairE y=b:=⟨_,rfl⟩
   rw[hfb]at HF HS
   clear hfb
   cases fb with
   | false=>
    obtain rfl:false=R:=by rw[←HI.out,HS.out];rfl
    go_wp2_with fail
    refine HF.out.mono ?_
    rintro e w6 ⟨rfl,hX6⟩
    go_wp2_with fail
    go_ret
    exact⟨rfl,HX.out.trans hX6⟩
   | true=>
    have HR2:Hid ((!(decide (m=2) && decide (y.kind=2)) && kidE (ks.drop (i+1)) y.kind)=R):=Lh (by rw[←HI.out,HS.out,Bool.true_and])
    clear HI HS
    have hcase:(((m==2)=true∧(y.kind==2)=true)∧false=R)∨(((m==2)=false∨((m==2)=true∧(y.kind==2)=false))∧kidE (ks.drop (i+1)) y.kind=R):=by
     by_cases h1:m=2
     ·
      by_cases h2:y.kind=2
      ·
       exact .inl ⟨⟨by rw[h1];rfl,by rw[h2];rfl⟩,by have:=HR2.out;rw[decide_eq_true h1,decide_eq_true h2]at this;exact this⟩
      ·
       exact .inr ⟨.inr ⟨by rw[h1];rfl,by rw[beq_eq_false_iff_ne];exact h2⟩,by have:=HR2.out;rw[decide_eq_false h2,Bool.and_false]at this;exact this⟩
     ·
      exact .inr ⟨.inl (by rw[beq_eq_false_iff_ne];exact h1),by have:=HR2.out;rw[decide_eq_false h1]at this;exact this⟩
    clear HR2
    rcases hcase with⟨⟨q1,q2⟩,hr⟩ | ⟨hq,hr⟩
    ·
     subst hr
     go_wp2_with fail
     refine HF.out.mono ?_
     rintro e w6 ⟨rfl,hX6⟩
     have hb6:=HB5.out.ext hX6
     have m0:=hb6.c0
     clear n0 n1 n2 n3 n4 HF
     go_wp2_with fail
     go_ret
     exact⟨rfl,HX.out.trans hX6⟩
    ·
     have HN2:=Lh hr
     clear hr
     rcases hq with q1 | ⟨q1,q2⟩
     all_goals (
      go_wp2_with fail
      refine HF.out.mono ?_
      rintro e w6 ⟨rfl,hX6⟩
      have hb6:=HB5.out.ext hX6
      have m0:=hb6.c0
      clear n0 n1 n2 n3 n4 HF
      go_wp2_with fail
      go_roundw
      case rel=>exact⟨i+1,_,by go_num,rfl,by omega,HX.out.trans hX6,HN2⟩
      case measure=>simp only[downV];omega)
  ·
   have hlI:¬(i:Int)< (ks.length:Int):=by omega
   obtain rfl:true=R:=by rw[←HI.out,List.drop_of_length_le (by omega),kidE]
   clear HI
   go_wp2_with fail
   go_ret
   exact⟨rfl,hX⟩
theorem fairF_step (N:Nat) (ih:FairF N):FairF (N+1):=by
 intro n va vk p w hN hcnt hT hva hvk
 obtain⟨ba,ca,rfl,_,_⟩:=hva.count z_attr (by omega)
 obtain⟨bk,ck,rfl,_,_⟩:=hvk.count z_node (by omega)
 obtain⟨R,hR⟩:∃R,fairE n=R:=⟨_,rfl⟩
 rw[hR]
 rw[fairE_eq]at hR
 obtain⟨w1,hw1⟩:∃W,w.alloc (.cells #[.int .i64 n.kind,.string (bs n.name),.string (bs n.text),.slice ba n.attrs.length ca,.slice bk n.kids.length ck] 26)=W:=⟨_,rfl⟩
 obtain⟨g,hg⟩:∃g,w.heap.size=g:=⟨_,rfl⟩
 have hE1:Ext w w1:=by rw[←hw1];exact(Ext.refl w).alloc _
 have hb1:B5 w1 g n (.slice ba n.attrs.length ca) (.slice bk n.kids.length ck):=by rw[←hw1,←hg];exact b5_box w n _ _
 have lg:g< w1.heap.size:=by rw[←hw1,←hg];simp
 have HE1:=Lh hE1
 have HX0:Hid (Ext w1 w1):=Lh (Ext.refl _)
 have HT:=Lh hT
 have HV:=Lh (And.intro hva hvk)
 have HN:=Lh hN
 have hck:=cnt_kids n
 have hown:=cntN_own n
 have HB:=Lh (show cntN n≤1048576∧cntL n.kids≤1048576∧cntA n.attrs≤1048576∧n.name.length≤1048576∧n.text.length≤1048576 by omega)
 have c0:=hb1.c0;have c1:=hb1.c1;have c2:=hb1.c2;have c3:=hb1.c3;have c4:=hb1.c4
 have HW:=Lh (And.intro hw1 hg)
 clear hw1 hg hE1 hb1 hT hva hvk hN hcnt hck hown
 go_enter Tryz.func20,Tryz.ntmps20
 go_upto_region 1 with fail
 rw[HW.out.1,HW.out.2]
 by_cases hk:n.kind=1
 ·
  have HR:Hid ((nameE n.name && (decide (n.text= []) && (attE n.attrs && kidE n.kids 0)))=R):=Lh (by rw[←hR,if_pos hk];simp only[Bool.and_assoc])
  clear hR
  have e1:(n.kind==1)=true:=by rw[hk];rfl
  clear hk
  have HC0:=Lh (name_any n.name (by have:=HB.out;omega) w1 (HT.out.ext (HE1.out.trans HX0.out)).all)
  obtain⟨b0,hb0⟩:∃b,nameE n.name=b:=⟨_,rfl⟩
  rw[hb0]at HC0 HR
  clear hb0
  cases b0 with
  | false=>
   obtain rfl:false=R:=HR.out
   go_wp2_with fail
   refine HC0.out.mono ?_
   rintro e y1 ⟨rfl,hX0⟩
   go_wp2_with fail
   go_ret
   exact⟨rfl,HE1.out.trans (HX0.out.trans hX0)⟩
  | true=>
   go_wp2_with fail
   refine HC0.out.mono ?_
   rintro e y1 ⟨rfl,hX0⟩
   have c0':=hX0.keep (Nat.lt_of_lt_of_le lg HX0.out.size) c0
   have c1':=hX0.keep (Nat.lt_of_lt_of_le lg HX0.out.size) c1
   have c2':=hX0.keep (Nat.lt_of_lt_of_le lg HX0.out.size) c2
   have c3':=hX0.keep (Nat.lt_of_lt_of_le lg HX0.out.size) c3
   have c4':=hX0.keep (Nat.lt_of_lt_of_le lg HX0.out.size) c4
   have HX1:=Lh (HX0.out.trans hX0)
   replace HR:=Lh (show _=R from HR.out)
   clear hX0 HC0 c0 c1 c2 c3 c4
   have c0:=c0'
   clear c0'
   have c1:=c1'
   clear c1'
   have c2:=c2'
   clear c2'
   have c3:=c3'
   clear c3'
   have c4:=c4'
   clear c4'
   by_cases t1:n.text= []
   ·
    have q1:=(show(bs n.text).toList.isEmpty=true by rw[bs_toList,t1];rfl)
    have HRt:=HR.out
    rw[decide_eq_true t1]at HRt
    replace HR:=Lh HRt
    clear HRt
    clear t1
    have HC2:=Lh (attrsF_any n.attrs (by have:=HB.out;omega) p _ y1 (HT.out.ext (HE1.out.trans HX1.out)) (HV.out.1.ext (HE1.out.trans HX1.out)))
    obtain⟨b2,hb2⟩:∃b,attE n.attrs=b:=⟨_,rfl⟩
    rw[hb2]at HC2 HR
    clear hb2
    cases b2 with
    | false=>
     obtain rfl:false=R:=HR.out
     go_wp2_with fail
     refine HC2.out.mono ?_
     rintro e y3 ⟨rfl,hX2⟩
     go_wp2_with fail
     go_ret
     exact⟨rfl,HE1.out.trans (HX1.out.trans hX2)⟩
    | true=>
     go_wp2_with fail
     refine HC2.out.mono ?_
     rintro e y3 ⟨rfl,hX2⟩
     have c0':=hX2.keep (Nat.lt_of_lt_of_le lg HX1.out.size) c0
     have c1':=hX2.keep (Nat.lt_of_lt_of_le lg HX1.out.size) c1
     have c2':=hX2.keep (Nat.lt_of_lt_of_le lg HX1.out.size) c2
     have c3':=hX2.keep (Nat.lt_of_lt_of_le lg HX1.out.size) c3
     have c4':=hX2.keep (Nat.lt_of_lt_of_le lg HX1.out.size) c4
     have HX3:=Lh (HX1.out.trans hX2)
     replace HR:=Lh (show _=R from HR.out)
     clear hX2 HC2 c0 c1 c2 c3 c4
     have c0:=c0'
     clear c0'
     have c1:=c1'
     clear c1'
     have c2:=c2'
     clear c2'
     have c3:=c3'
     clear c3'
     have c4:=c4'
     clear c4'
     have HC3:=Lh (kidsF_any N ih n.kids (fun k hk=>by have:=nsz_mem n k hk;have:=HN.out;omega) (by have:=HB.out;omega) p _ y3 (HT.out.ext (HE1.out.trans HX3.out)) (HV.out.2.ext (HE1.out.trans HX3.out)))
     obtain⟨b3,hb3⟩:∃b,kidE n.kids 0=b:=⟨_,rfl⟩
     rw[hb3]at HC3 HR
     clear hb3
     obtain rfl:=HR.out
     cases b3
     all_goals (
      go_wp2_with fail
      refine HC3.out.mono ?_
      rintro e y4 ⟨rfl,hX3⟩
      go_wp2_with fail
      go_ret
      exact⟨rfl,HE1.out.trans (HX3.out.trans hX3)⟩)
   ·
    have q1:=(show(bs n.text).toList.isEmpty=false by rw[bs_toList];exact isE_false t1)
    have HRt:=HR.out
    rw[decide_eq_false t1]at HRt
    replace HR:=Lh HRt
    clear HRt
    clear t1
    obtain rfl:false=R:=HR.out
    go_wp2_with fail
    go_ret
    exact⟨rfl,HE1.out.trans HX1.out⟩
 ·
  rw[if_neg hk]at hR
  unfold leafE at hR
  by_cases hk2:n.kind=2
  ·
   have HR:Hid (((decide (n.attrs= []) && decide (n.kids= [])) && (decide (n.name= []) && (decide (n.text≠ []) && chE n.text)))=R):=Lh (by rw[←hR,if_pos hk2])
   clear hR
   have e1:(n.kind==1)=false:=by rw[beq_eq_false_iff_ne];omega
   have e2:(n.kind==2)=true:=by rw[hk2];rfl
   clear hk hk2
   have HC0:=Lh (bare_any n _ _ p w1 HB.out.1 (HV.out.1.ext (HE1.out.trans HX0.out)) (HV.out.2.ext (HE1.out.trans HX0.out)))
   obtain⟨b0,hb0⟩:∃b,(decide (n.attrs= []) && decide (n.kids= []))=b:=⟨_,rfl⟩
   rw[hb0]at HC0 HR
   clear hb0
   cases b0 with
   | false=>
    obtain rfl:false=R:=HR.out
    go_wp2_with fail
    refine HC0.out.mono ?_
    rintro e y1 ⟨rfl,hX0⟩
    go_wp2_with fail
    go_ret
    exact⟨rfl,HE1.out.trans (HX0.out.trans hX0)⟩
   | true=>
    go_wp2_with fail
    refine HC0.out.mono ?_
    rintro e y1 ⟨rfl,hX0⟩
    have c0':=hX0.keep (Nat.lt_of_lt_of_le lg HX0.out.size) c0
    have c1':=hX0.keep (Nat.lt_of_lt_of_le lg HX0.out.size) c1
    have c2':=hX0.keep (Nat.lt_of_lt_of_le lg HX0.out.size) c2
    have c3':=hX0.keep (Nat.lt_of_lt_of_le lg HX0.out.size) c3
    have c4':=hX0.keep (Nat.lt_of_lt_of_le lg HX0.out.size) c4
    have HX1:=Lh (HX0.out.trans hX0)
    replace HR:=Lh (show _=R from HR.out)
    clear hX0 HC0 c0 c1 c2 c3 c4
    have c0:=c0'
    clear c0'
    have c1:=c1'
    clear c1'
    have c2:=c2'
    clear c2'
    have c3:=c3'
    clear c3'
    have c4:=c4'
    clear c4'
    by_cases t1:n.name= []
    ·
     have q1:=(show(bs n.name).toList.isEmpty=true by rw[bs_toList,t1];rfl)
     have HRt:=HR.out
     rw[decide_eq_true t1]at HRt
     replace HR:=Lh HRt
     clear HRt
     clear t1
     by_cases t2:n.text≠ []
     ·
      have q2:=(show(bs n.text).toList.isEmpty=false by rw[bs_toList];exact isE_false t2)
      have HRt:=HR.out
      rw[decide_eq_true t2]at HRt
      replace HR:=Lh HRt
      clear HRt
      clear t2
      have HC3:=Lh (chE_any n.text (by have:=HB.out;omega) y1 (HT.out.ext (HE1.out.trans HX1.out)))
      obtain⟨b3,hb3⟩:∃b,chE n.text=b:=⟨_,rfl⟩
      rw[hb3]at HC3 HR
      clear hb3
      obtain rfl:=HR.out
      cases b3
      all_goals (
       go_wp2_with fail
       refine HC3.out.mono ?_
       rintro e y4 ⟨rfl,hX3⟩
       go_wp2_with fail
       go_ret
       exact⟨rfl,HE1.out.trans (HX1.out.trans hX3)⟩)
     ·
      have q2:=(show(bs n.text).toList.isEmpty=true by rw[bs_toList,Decidable.not_not.1 t2];rfl)
      have HRt:=HR.out
      rw[decide_eq_false t2]at HRt
      replace HR:=Lh HRt
      clear HRt
      clear t2
      obtain rfl:false=R:=HR.out
      go_wp2_with fail
      go_ret
      exact⟨rfl,HE1.out.trans HX1.out⟩
    ·
     have q1:=(show(bs n.name).toList.isEmpty=false by rw[bs_toList];exact isE_false t1)
     have HRt:=HR.out
     rw[decide_eq_false t1]at HRt
     replace HR:=Lh HRt
     clear HRt
     clear t1
     obtain rfl:false=R:=HR.out
     go_wp2_with fail
     go_ret
     exact⟨rfl,HE1.out.trans HX1.out⟩
  ·
   rw[if_neg hk2]at hR
   by_cases hk3:n.kind=3
   ·
    have HR:Hid (((decide (n.attrs= []) && decide (n.kids= [])) && (decide (n.name= []) && (plE n.text && (!Lib.contains n.text [45,45] && !Lib.hasSuffix n.text [45]))))=R):=Lh (by rw[←hR,if_pos hk3];rfl)
    clear hR
    have e1:(n.kind==1)=false:=by rw[beq_eq_false_iff_ne];omega
    have e2:(n.kind==2)=false:=by rw[beq_eq_false_iff_ne];omega
    have e3:(n.kind==3)=true:=by rw[hk3];rfl
    clear hk hk2 hk3
    have HC0:=Lh (bare_any n _ _ p w1 HB.out.1 (HV.out.1.ext (HE1.out.trans HX0.out)) (HV.out.2.ext (HE1.out.trans HX0.out)))
    obtain⟨b0,hb0⟩:∃b,(decide (n.attrs= []) && decide (n.kids= []))=b:=⟨_,rfl⟩
    rw[hb0]at HC0 HR
    clear hb0
    cases b0 with
    | false=>
     obtain rfl:false=R:=HR.out
     go_wp2_with fail
     refine HC0.out.mono ?_
     rintro e y1 ⟨rfl,hX0⟩
     go_wp2_with fail
     go_ret
     exact⟨rfl,HE1.out.trans (HX0.out.trans hX0)⟩
    | true=>
     go_wp2_with fail
     refine HC0.out.mono ?_
     rintro e y1 ⟨rfl,hX0⟩
     have c0':=hX0.keep (Nat.lt_of_lt_of_le lg HX0.out.size) c0
     have c1':=hX0.keep (Nat.lt_of_lt_of_le lg HX0.out.size) c1
     have c2':=hX0.keep (Nat.lt_of_lt_of_le lg HX0.out.size) c2
     have c3':=hX0.keep (Nat.lt_of_lt_of_le lg HX0.out.size) c3
     have c4':=hX0.keep (Nat.lt_of_lt_of_le lg HX0.out.size) c4
     have HX1:=Lh (HX0.out.trans hX0)
     replace HR:=Lh (show _=R from HR.out)
     clear hX0 HC0 c0 c1 c2 c3 c4
     have c0:=c0'
     clear c0'
     have c1:=c1'
     clear c1'
     have c2:=c2'
     clear c2'
     have c3:=c3'
     clear c3'
     have c4:=c4'
     clear c4'
     by_cases t1:n.name= []
     ·
      have q1:=(show(bs n.name).toList.isEmpty=true by rw[bs_toList,t1];rfl)
      have HRt:=HR.out
      rw[decide_eq_true t1]at HRt
      replace HR:=Lh HRt
      clear HRt
      clear t1
      have HC2:=Lh (plE_any n.text (by have:=HB.out;omega) y1 (HT.out.ext (HE1.out.trans HX1.out)))
      obtain⟨b2,hb2⟩:∃b,plE n.text=b:=⟨_,rfl⟩
      rw[hb2]at HC2 HR
      clear hb2
      cases b2 with
      | false=>
       obtain rfl:false=R:=HR.out
       go_wp2_with fail
       refine HC2.out.mono ?_
       rintro e y3 ⟨rfl,hX2⟩
       go_wp2_with fail
       go_ret
       exact⟨rfl,HE1.out.trans (HX1.out.trans hX2)⟩
      | true=>
       go_wp2_with fail
       refine HC2.out.mono ?_
       rintro e y3 ⟨rfl,hX2⟩
       have c0':=hX2.keep (Nat.lt_of_lt_of_le lg HX1.out.size) c0
       have c1':=hX2.keep (Nat.lt_of_lt_of_le lg HX1.out.size) c1
       have c2':=hX2.keep (Nat.lt_of_lt_of_le lg HX1.out.size) c2
       have c3':=hX2.keep (Nat.lt_of_lt_of_le lg HX1.out.size) c3
       have c4':=hX2.keep (Nat.lt_of_lt_of_le lg HX1.out.size) c4
       have HX3:=Lh (HX1.out.trans hX2)
       replace HR:=Lh (show _=R from HR.out)
       clear hX2 HC2 c0 c1 c2 c3 c4
       have c0:=c0'
       clear c0'
       have c1:=c1'
       clear c1'
       have c2:=c2'
       clear c2'
       have c3:=c3'
       clear c3'
       have c4:=c4'
       clear c4'
       have HC3:=Lh (contS_any n.text [45,45] (by have:=HB.out;omega) y3 (HT.out.ext (HE1.out.trans HX3.out)))
       obtain⟨b3,hb3⟩:∃b,Lib.contains n.text [45,45]=b:=⟨_,rfl⟩
       rw[hb3]at HC3 HR
       clear hb3
       cases b3 with
       | true=>
        obtain rfl:false=R:=HR.out
        go_wp2_with fail
        refine HC3.out.mono ?_
        rintro e y4 ⟨rfl,hX3⟩
        go_wp2_with fail
        go_ret
        exact⟨rfl,HE1.out.trans (HX3.out.trans hX3)⟩
       | false=>
        go_wp2_with fail
        refine HC3.out.mono ?_
        rintro e y4 ⟨rfl,hX3⟩
        have c0':=hX3.keep (Nat.lt_of_lt_of_le lg HX3.out.size) c0
        have c1':=hX3.keep (Nat.lt_of_lt_of_le lg HX3.out.size) c1
        have c2':=hX3.keep (Nat.lt_of_lt_of_le lg HX3.out.size) c2
        have c3':=hX3.keep (Nat.lt_of_lt_of_le lg HX3.out.size) c3
        have c4':=hX3.keep (Nat.lt_of_lt_of_le lg HX3.out.size) c4
        have HX4:=Lh (HX3.out.trans hX3)
        replace HR:=Lh (show _=R from HR.out)
        clear hX3 HC3 c0 c1 c2 c3 c4
        have c0:=c0'
        clear c0'
        have c1:=c1'
        clear c1'
        have c2:=c2'
        clear c2'
        have c3:=c3'
        clear c3'
        have c4:=c4'
        clear c4'
        have HC4:=Lh (suffS_any n.text [45] (by have:=HB.out;omega) y4)
        obtain⟨b4,hb4⟩:∃b,Lib.hasSuffix n.text [45]=b:=⟨_,rfl⟩
        rw[hb4]at HC4 HR
        clear hb4
        obtain rfl:=HR.out
        cases b4
        all_goals (
         go_wp2_with fail
         refine HC4.out.mono ?_
         rintro e y5 ⟨rfl,hX4⟩
         go_wp2_with fail
         go_ret
         exact⟨rfl,HE1.out.trans (HX4.out.trans hX4)⟩)
     ·
      have q1:=(show(bs n.name).toList.isEmpty=false by rw[bs_toList];exact isE_false t1)
      have HRt:=HR.out
      rw[decide_eq_false t1]at HRt
      replace HR:=Lh HRt
      clear HRt
      clear t1
      obtain rfl:false=R:=HR.out
      go_wp2_with fail
      go_ret
      exact⟨rfl,HE1.out.trans HX1.out⟩
   ·
    rw[if_neg hk3]at hR
    by_cases hk4:n.kind=4
    ·
     have HR0:Hid (((decide (n.attrs= []) && decide (n.kids= [])) && (nameE n.name && (decide (Lib.toLowerD n.name≠ [120,109,108]) && (plE n.text && (!Lib.contains n.text [63,62] && !(decide (n.text≠ []) && blankI (firstI n.text)))))))=R):=Lh (by rw[←hR,if_pos hk4];rfl)
     clear hR
     have e1:(n.kind==1)=false:=by rw[beq_eq_false_iff_ne];exact hk
     have e2:(n.kind==2)=false:=by rw[beq_eq_false_iff_ne];exact hk2
     have e3:(n.kind==3)=false:=by rw[beq_eq_false_iff_ne];exact hk3
     have e4:(n.kind==4)=true:=by rw[hk4];rfl
     clear hk hk2 hk3 hk4
     obtain⟨bb,hbb⟩:∃b,(decide (n.text≠ []) && blankI (firstI n.text))=b:=⟨_,rfl⟩
     rw[hbb]at HR0
     have HR:=HR0
     clear HR0
     by_cases t0:n.text= []
     ·
      have qt:(bs n.text).toList.isEmpty=true:=by rw[bs_toList,t0];rfl
      obtain rfl:bb=false:=by rw[←hbb,t0];rfl
      clear t0 hbb
      go_upto_region 10 with fail
      have HC0:=Lh (bare_any n _ _ p w1 HB.out.1 (HV.out.1.ext (HE1.out.trans HX0.out)) (HV.out.2.ext (HE1.out.trans HX0.out)))
      obtain⟨b0,hb0⟩:∃b,(decide (n.attrs= []) && decide (n.kids= []))=b:=⟨_,rfl⟩
      rw[hb0]at HC0 HR
      clear hb0
      cases b0 with
      | false=>
       obtain rfl:false=R:=HR.out
       go_wp2_with fail
       refine HC0.out.mono ?_
       rintro e y1 ⟨rfl,hX0⟩
       go_wp2_with fail
       go_ret
       exact⟨rfl,HE1.out.trans (HX0.out.trans hX0)⟩
      | true=>
       go_wp2_with fail
       refine HC0.out.mono ?_
       rintro e y1 ⟨rfl,hX0⟩
       have c0':=hX0.keep (Nat.lt_of_lt_of_le lg HX0.out.size) c0
       have c1':=hX0.keep (Nat.lt_of_lt_of_le lg HX0.out.size) c1
       have c2':=hX0.keep (Nat.lt_of_lt_of_le lg HX0.out.size) c2
       have c3':=hX0.keep (Nat.lt_of_lt_of_le lg HX0.out.size) c3
       have c4':=hX0.keep (Nat.lt_of_lt_of_le lg HX0.out.size) c4
       have HX1:=Lh (HX0.out.trans hX0)
       replace HR:=Lh (show _=R from HR.out)
       clear hX0 HC0 c0 c1 c2 c3 c4
       have c0:=c0'
       clear c0'
       have c1:=c1'
       clear c1'
       have c2:=c2'
       clear c2'
       have c3:=c3'
       clear c3'
       have c4:=c4'
       clear c4'
       have HC1:=Lh (name_any n.name (by have:=HB.out;omega) y1 (HT.out.ext (HE1.out.trans HX1.out)).all)
       obtain⟨b1,hb1⟩:∃b,nameE n.name=b:=⟨_,rfl⟩
       rw[hb1]at HC1 HR
       clear hb1
       cases b1 with
       | false=>
        obtain rfl:false=R:=HR.out
        go_wp2_with fail
        refine HC1.out.mono ?_
        rintro e y2 ⟨rfl,hX1⟩
        go_wp2_with fail
        go_ret
        exact⟨rfl,HE1.out.trans (HX1.out.trans hX1)⟩
       | true=>
        go_wp2_with fail
        refine HC1.out.mono ?_
        rintro e y2 ⟨rfl,hX1⟩
        have c0':=hX1.keep (Nat.lt_of_lt_of_le lg HX1.out.size) c0
        have c1':=hX1.keep (Nat.lt_of_lt_of_le lg HX1.out.size) c1
        have c2':=hX1.keep (Nat.lt_of_lt_of_le lg HX1.out.size) c2
        have c3':=hX1.keep (Nat.lt_of_lt_of_le lg HX1.out.size) c3
        have c4':=hX1.keep (Nat.lt_of_lt_of_le lg HX1.out.size) c4
        have HX2:=Lh (HX1.out.trans hX1)
        replace HR:=Lh (show _=R from HR.out)
        clear hX1 HC1 c0 c1 c2 c3 c4
        have c0:=c0'
        clear c0'
        have c1:=c1'
        clear c1'
        have c2:=c2'
        clear c2'
        have c3:=c3'
        clear c3'
        have c4:=c4'
        clear c4'
        have HC2:=Lh (lowS_any n.name (by have:=HB.out;omega) y2 (HT.out.ext (HE1.out.trans HX2.out)))
        obtain⟨Lw,hLw⟩:∃l,Lib.toLowerD n.name=l:=⟨_,rfl⟩
        rw[hLw]at HC2 HR
        clear hLw
        by_cases t2:Lw≠ [120,109,108]
        ·
         have q2:((bs Lw).toList==([120,109,108]:List UInt8))=false:=by rw[bs_toList,beq_eq_false_iff_ne];exact t2
         have HRt:=HR.out
         rw[decide_eq_true t2]at HRt
         replace HR:=Lh HRt
         clear HRt
         clear t2
         go_wp2_with fail
         refine HC2.out.mono ?_
         rintro e y3 ⟨rfl,hX2⟩
         have c0':=hX2.keep (Nat.lt_of_lt_of_le lg HX2.out.size) c0
         have c1':=hX2.keep (Nat.lt_of_lt_of_le lg HX2.out.size) c1
         have c2':=hX2.keep (Nat.lt_of_lt_of_le lg HX2.out.size) c2
         have c3':=hX2.keep (Nat.lt_of_lt_of_le lg HX2.out.size) c3
         have c4':=hX2.keep (Nat.lt_of_lt_of_le lg HX2.out.size) c4
         have HX3:=Lh (HX2.out.trans hX2)
         clear hX2 HC2 c0 c1 c2 c3 c4
         have c0:=c0'
         clear c0'
         have c1:=c1'
         clear c1'
         have c2:=c2'
         clear c2'
         have c3:=c3'
         clear c3'
         have c4:=c4'
         clear c4'
         have HC3:=Lh (plE_any n.text (by have:=HB.out;omega) y3 (HT.out.ext (HE1.out.trans HX3.out)))
         obtain⟨b3,hb3⟩:∃b,plE n.text=b:=⟨_,rfl⟩
         rw[hb3]at HC3 HR
         clear hb3
         cases b3 with
         | false=>
          obtain rfl:false=R:=HR.out
          go_wp2_with fail
          refine HC3.out.mono ?_
          rintro e y4 ⟨rfl,hX3⟩
          go_wp2_with fail
          go_ret
          exact⟨rfl,HE1.out.trans (HX3.out.trans hX3)⟩
         | true=>
          go_wp2_with fail
          refine HC3.out.mono ?_
          rintro e y4 ⟨rfl,hX3⟩
          have c0':=hX3.keep (Nat.lt_of_lt_of_le lg HX3.out.size) c0
          have c1':=hX3.keep (Nat.lt_of_lt_of_le lg HX3.out.size) c1
          have c2':=hX3.keep (Nat.lt_of_lt_of_le lg HX3.out.size) c2
          have c3':=hX3.keep (Nat.lt_of_lt_of_le lg HX3.out.size) c3
          have c4':=hX3.keep (Nat.lt_of_lt_of_le lg HX3.out.size) c4
          have HX4:=Lh (HX3.out.trans hX3)
          replace HR:=Lh (show _=R from HR.out)
          clear hX3 HC3 c0 c1 c2 c3 c4
          have c0:=c0'
          clear c0'
          have c1:=c1'
          clear c1'
          have c2:=c2'
          clear c2'
          have c3:=c3'
          clear c3'
          have c4:=c4'
          clear c4'
          have HC4:=Lh (contS_any n.text [63,62] (by have:=HB.out;omega) y4 (HT.out.ext (HE1.out.trans HX4.out)))
          obtain⟨b4,hb4⟩:∃b,Lib.contains n.text [63,62]=b:=⟨_,rfl⟩
          rw[hb4]at HC4 HR
          clear hb4
          cases b4 with
          | true=>
           obtain rfl:false=R:=HR.out
           go_wp2_with fail
           refine HC4.out.mono ?_
           rintro e y5 ⟨rfl,hX4⟩
           go_wp2_with fail
           go_ret
           exact⟨rfl,HE1.out.trans (HX4.out.trans hX4)⟩
          | false=>
           go_wp2_with fail
           refine HC4.out.mono ?_
           rintro e y5 ⟨rfl,hX4⟩
           have c0':=hX4.keep (Nat.lt_of_lt_of_le lg HX4.out.size) c0
           have c1':=hX4.keep (Nat.lt_of_lt_of_le lg HX4.out.size) c1
           have c2':=hX4.keep (Nat.lt_of_lt_of_le lg HX4.out.size) c2
           have c3':=hX4.keep (Nat.lt_of_lt_of_le lg HX4.out.size) c3
           have c4':=hX4.keep (Nat.lt_of_lt_of_le lg HX4.out.size) c4
           have HX5:=Lh (HX4.out.trans hX4)
           replace HR:=Lh (show _=R from HR.out)
           clear hX4 HC4 c0 c1 c2 c3 c4
           have c0:=c0'
           clear c0'
           have c1:=c1'
           clear c1'
           have c2:=c2'
           clear c2'
           have c3:=c3'
           clear c3'
           have c4:=c4'
           clear c4'
           obtain rfl:=HR.out
           skip
           all_goals (
            go_wp2_with fail
            go_ret
            exact⟨rfl,HE1.out.trans HX5.out⟩)
        ·
         have q2:((bs Lw).toList==([120,109,108]:List UInt8))=true:=by rw[bs_toList,Decidable.not_not.1 t2];rfl
         have HRt:=HR.out
         rw[decide_eq_false t2]at HRt
         replace HR:=Lh HRt
         clear HRt
         clear t2
         obtain rfl:false=R:=HR.out
         go_wp2_with fail
         refine HC2.out.mono ?_
         rintro e y3 ⟨rfl,hX2⟩
         go_wp2_with fail
         go_ret
         exact⟨rfl,HE1.out.trans (HX2.out.trans hX2)⟩
     ·
      have qt:(bs n.text).toList.isEmpty=false:=by rw[bs_toList];exact isE_false t0
      have hlt:0< (bs n.text).size:=by rw[bs_size];exact List.length_pos_iff.2 t0
      have hltI:(0:Int)< ((bs n.text).size:Int):=by omega
      obtain⟨c,hcc⟩:∃c,(bs n.text)[0]'hlt=c:=⟨_,rfl⟩
      have hfc:firstI n.text=(c.toNat:Int):=by
       rw[←hcc,bs_getE n.text 0 hlt];unfold firstI
       rw[List.getD_eq_getElem?_getD,List.getElem?_eq_getElem (by rw[bs_size]at hlt;exact hlt)];rfl
      have hbl:blankI (c.toNat:Int)=bb:=by rw[←hbb,←hfc,decide_eq_true t0,Bool.true_and]
      have hcn:=c.toNat_lt
      have hcw:IntKind.i32.wrap (c.toNat:Int)=(c.toNat:Int):=by unfold IntKind.wrap IntKind.bits IntKind.signed;simp;omega
      have HBL:Hid (∀W,Calls Tryz.prog 43 #[.int .i32 (c.toNat:Int)] W fun e w'=>e= .returned (.bool bb)∧W=w'):=Lh fun W=>by rw[←hbl];exact(blank_any _ W).mono fun _ _ h=>⟨h.1,h.2.symm⟩
      clear t0 hbb hfc hbl
      go_wp2_with fail
      refine(HBL.out _).mono ?_
      rintro e w2 ⟨rfl,rfl⟩
      go_upto_region 10 with fail
      have HC0:=Lh (bare_any n _ _ p w1 HB.out.1 (HV.out.1.ext (HE1.out.trans HX0.out)) (HV.out.2.ext (HE1.out.trans HX0.out)))
      obtain⟨b0,hb0⟩:∃b,(decide (n.attrs= []) && decide (n.kids= []))=b:=⟨_,rfl⟩
      rw[hb0]at HC0 HR
      clear hb0
      cases b0 with
      | false=>
       obtain rfl:false=R:=HR.out
       go_wp2_with fail
       refine HC0.out.mono ?_
       rintro e y1 ⟨rfl,hX0⟩
       go_wp2_with fail
       go_ret
       exact⟨rfl,HE1.out.trans (HX0.out.trans hX0)⟩
      | true=>
       go_wp2_with fail
       refine HC0.out.mono ?_
       rintro e y1 ⟨rfl,hX0⟩
       have c0':=hX0.keep (Nat.lt_of_lt_of_le lg HX0.out.size) c0
       have c1':=hX0.keep (Nat.lt_of_lt_of_le lg HX0.out.size) c1
       have c2':=hX0.keep (Nat.lt_of_lt_of_le lg HX0.out.size) c2
       have c3':=hX0.keep (Nat.lt_of_lt_of_le lg HX0.out.size) c3
       have c4':=hX0.keep (Nat.lt_of_lt_of_le lg HX0.out.size) c4
       have HX1:=Lh (HX0.out.trans hX0)
       replace HR:=Lh (show _=R from HR.out)
       clear hX0 HC0 c0 c1 c2 c3 c4
       have c0:=c0'
       clear c0'
       have c1:=c1'
       clear c1'
       have c2:=c2'
       clear c2'
       have c3:=c3'
       clear c3'
       have c4:=c4'
       clear c4'
       have HC1:=Lh (name_any n.name (by have:=HB.out;omega) y1 (HT.out.ext (HE1.out.trans HX1.out)).all)
       obtain⟨b1,hb1⟩:∃b,nameE n.name=b:=⟨_,rfl⟩
       rw[hb1]at HC1 HR
       clear hb1
       cases b1 with
       | false=>
        obtain rfl:false=R:=HR.out
        go_wp2_with fail
        refine HC1.out.mono ?_
        rintro e y2 ⟨rfl,hX1⟩
        go_wp2_with fail
        go_ret
        exact⟨rfl,HE1.out.trans (HX1.out.trans hX1)⟩
       | true=>
        go_wp2_with fail
        refine HC1.out.mono ?_
        rintro e y2 ⟨rfl,hX1⟩
        have c0':=hX1.keep (Nat.lt_of_lt_of_le lg HX1.out.size) c0
        have c1':=hX1.keep (Nat.lt_of_lt_of_le lg HX1.out.size) c1
        have c2':=hX1.keep (Nat.lt_of_lt_of_le lg HX1.out.size) c2
        have c3':=hX1.keep (Nat.lt_of_lt_of_le lg HX1.out.size) c3
        have c4':=hX1.keep (Nat.lt_of_lt_of_le lg HX1.out.size) c4
        have HX2:=Lh (HX1.out.trans hX1)
        replace HR:=Lh (show _=R from HR.out)
        clear hX1 HC1 c0 c1 c2 c3 c4
        have c0:=c0'
        clear c0'
        have c1:=c1'
        clear c1'
        have c2:=c2'
        clear c2'
        have c3:=c3'
        clear c3'
        have c4:=c4'
        clear c4'
        have HC2:=Lh (lowS_any n.name (by have:=HB.out;omega) y2 (HT.out.ext (HE1.out.trans HX2.out)))
        obtain⟨Lw,hLw⟩:∃l,Lib.toLowerD n.name=l:=⟨_,rfl⟩
        rw[hLw]at HC2 HR
        clear hLw
        by_cases t2:Lw≠ [120,109,108]
        ·
         have q2:((bs Lw).toList==([120,109,108]:List UInt8))=false:=by rw[bs_toList,beq_eq_false_iff_ne];exact t2
         have HRt:=HR.out
         rw[decide_eq_true t2]at HRt
         replace HR:=Lh HRt
         clear HRt
         clear t2
         go_wp2_with fail
         refine HC2.out.mono ?_
         rintro e y3 ⟨rfl,hX2⟩
         have c0':=hX2.keep (Nat.lt_of_lt_of_le lg HX2.out.size) c0
         have c1':=hX2.keep (Nat.lt_of_lt_of_le lg HX2.out.size) c1
         have c2':=hX2.keep (Nat.lt_of_lt_of_le lg HX2.out.size) c2
         have c3':=hX2.keep (Nat.lt_of_lt_of_le lg HX2.out.size) c3
         have c4':=hX2.keep (Nat.lt_of_lt_of_le lg HX2.out.size) c4
         have HX3:=Lh (HX2.out.trans hX2)
         clear hX2 HC2 c0 c1 c2 c3 c4
         have c0:=c0'
         clear c0'
         have c1:=c1'
         clear c1'
         have c2:=c2'
         clear c2'
         have c3:=c3'
         clear c3'
         have c4:=c4'
         clear c4'
         have HC3:=Lh (plE_any n.text (by have:=HB.out;omega) y3 (HT.out.ext (HE1.out.trans HX3.out)))
         obtain⟨b3,hb3⟩:∃b,plE n.text=b:=⟨_,rfl⟩
         rw[hb3]at HC3 HR
         clear hb3
         cases b3 with
         | false=>
          obtain rfl:false=R:=HR.out
          go_wp2_with fail
          refine HC3.out.mono ?_
          rintro e y4 ⟨rfl,hX3⟩
          go_wp2_with fail
          go_ret
          exact⟨rfl,HE1.out.trans (HX3.out.trans hX3)⟩
         | true=>
          go_wp2_with fail
          refine HC3.out.mono ?_
          rintro e y4 ⟨rfl,hX3⟩
          have c0':=hX3.keep (Nat.lt_of_lt_of_le lg HX3.out.size) c0
          have c1':=hX3.keep (Nat.lt_of_lt_of_le lg HX3.out.size) c1
          have c2':=hX3.keep (Nat.lt_of_lt_of_le lg HX3.out.size) c2
          have c3':=hX3.keep (Nat.lt_of_lt_of_le lg HX3.out.size) c3
          have c4':=hX3.keep (Nat.lt_of_lt_of_le lg HX3.out.size) c4
          have HX4:=Lh (HX3.out.trans hX3)
          replace HR:=Lh (show _=R from HR.out)
          clear hX3 HC3 c0 c1 c2 c3 c4
          have c0:=c0'
          clear c0'
          have c1:=c1'
          clear c1'
          have c2:=c2'
          clear c2'
          have c3:=c3'
          clear c3'
          have c4:=c4'
          clear c4'
          have HC4:=Lh (contS_any n.text [63,62] (by have:=HB.out;omega) y4 (HT.out.ext (HE1.out.trans HX4.out)))
          obtain⟨b4,hb4⟩:∃b,Lib.contains n.text [63,62]=b:=⟨_,rfl⟩
          rw[hb4]at HC4 HR
          clear hb4
          cases b4 with
          | true=>
           obtain rfl:false=R:=HR.out
           go_wp2_with fail
           refine HC4.out.mono ?_
           rintro e y5 ⟨rfl,hX4⟩
           go_wp2_with fail
           go_ret
           exact⟨rfl,HE1.out.trans (HX4.out.trans hX4)⟩
          | false=>
           go_wp2_with fail
           refine HC4.out.mono ?_
           rintro e y5 ⟨rfl,hX4⟩
           have c0':=hX4.keep (Nat.lt_of_lt_of_le lg HX4.out.size) c0
           have c1':=hX4.keep (Nat.lt_of_lt_of_le lg HX4.out.size) c1
           have c2':=hX4.keep (Nat.lt_of_lt_of_le lg HX4.out.size) c2
           have c3':=hX4.keep (Nat.lt_of_lt_of_le lg HX4.out.size) c3
           have c4':=hX4.keep (Nat.lt_of_lt_of_le lg HX4.out.size) c4
           have HX5:=Lh (HX4.out.trans hX4)
           replace HR:=Lh (show _=R from HR.out)
           clear hX4 HC4 c0 c1 c2 c3 c4
           have c0:=c0'
           clear c0'
           have c1:=c1'
           clear c1'
           have c2:=c2'
           clear c2'
           have c3:=c3'
           clear c3'
           have c4:=c4'
           clear c4'
           obtain rfl:=HR.out
           cases bb
           all_goals (
            go_wp2_with fail
            go_ret
            exact⟨rfl,HE1.out.trans HX5.out⟩)
        ·
         have q2:((bs Lw).toList==([120,109,108]:List UInt8))=true:=by rw[bs_toList,Decidable.not_not.1 t2];rfl
         have HRt:=HR.out
         rw[decide_eq_false t2]at HRt
         replace HR:=Lh HRt
         clear HRt
         clear t2
         obtain rfl:false=R:=HR.out
         go_wp2_with fail
         refine HC2.out.mono ?_
         rintro e y3 ⟨rfl,hX2⟩
         go_wp2_with fail
         go_ret
         exact⟨rfl,HE1.out.trans (HX2.out.trans hX2)⟩
    ·
     rw[if_neg hk4,Bool.and_false]at hR
     have e1:(n.kind==1)=false:=by rw[beq_eq_false_iff_ne];exact hk
     have e2:(n.kind==2)=false:=by rw[beq_eq_false_iff_ne];exact hk2
     have e3:(n.kind==3)=false:=by rw[beq_eq_false_iff_ne];exact hk3
     have e4:(n.kind==4)=false:=by rw[beq_eq_false_iff_ne];exact hk4
     subst hR
     clear hk hk2 hk3 hk4
     go_wp2_with fail
     go_ret
     exact⟨rfl,HE1.out⟩
theorem fairF_any:∀N:Nat,FairF N:=by
 intro N
 induction N with
 | zero=>intro n va vk p w hN;omega
 | succ N ih=>exact fairF_step N ih
end Go.Proofs.YtcfibjiikhnfhaaGreatDoor
