/-
 Laws drawn from elder texts. Helper lemmas;no statement of the seat is proved here.
-/
import Derived.Test.YtngmgjodcnknoaaGreatDoorU21
namespace Go.Proofs.YtngmgjodcnknoaaGreatDoor
open Go.RowKit
set_option maxHeartbeats 32000000
set_option maxRecDepth 100000
set_option linter.unusedVariables false
set_option linter.unusedSimpArgs false
theorem rep_none {w:World} {p:Nat→Prop} {len cap z:Nat} {es:List DV} (h:Rep w p (.slice none len cap) (.s z es)):len=0∧cap=0∧es= []:=by cases h;exact⟨rfl,rfl,rfl⟩
theorem rep_some {w:World} {p:Nat→Prop} {ad:Addr} {len cap z:Nat} {es:List DV} (h:Rep w p (.slice (some ad) len cap) (.s z es)):∃us,Reps w p us es∧us.length=len*z∧(∀(j:Nat) (u:Value),us[j]? =some u→w.cell? (ad.add j)=some u):=by
 cases h with
 | emp=>exact⟨[],Reps.nil _ _,by simp,fun j u h=>by simp at h⟩
 | row b off _ _ _ us _ hok hl hu hcap hm hc hr=>exact⟨us,⟨by rw[hu,hl],hr⟩,hu,fun j u hj=>by rw[add_offs'];exact hc j u hj⟩
theorem version_any (n:Int) (w:World):Calls Tryz.prog 61 #[.int .i64 n] w fun e w'=>e= .returned (.bool (verB n))∧w'=w:=by
 by_cases h1:1≤n
 ·
  by_cases h2:n≤200
  ·
   have HN:verB n=true:=decide_eq_true ⟨h1,h2⟩
   rw[HN]
   go_enter Tryz.func61,Tryz.ntmps61
   go_wp2_with fail
   go_ret
   exact⟨rfl,rfl⟩
  ·
   have HN:verB n=false:=decide_eq_false kA
   rw[HN]
   go_enter Tryz.func61,Tryz.ntmps61
   go_wp2_with fail
   go_ret
   exact⟨rfl,rfl⟩
 ·
  have HN:verB n=false:=decide_eq_false kA
  rw[HN]
  go_enter Tryz.func61,Tryz.ntmps61
  go_wp2_with fail
  go_ret
  exact⟨rfl,rfl⟩
theorem may_set (x:List Span) (p:Nat→Prop) (v:Value) (w:World) (h:Rep w p v (spansD x)):
  Calls Tryz.prog 38 #[v] w fun e w'=>e= .returned (.bool (mayI x (-1)))∧Ext w w':=by
 obtain⟨a,c,rfl,hc1,hc2⟩:=h.count z_span kA
 obtain⟨R,hR⟩:∃R,mayI x (-1)=R:=⟨_,rfl⟩
 rw[hR]
 have HR:Hid (mayI (x.drop 0) (-1)=R):=Lh hR
 clear hR
 go_enter Tryz.func38,Tryz.ntmps38
 go_wp2_with fail
 go_loopw [2,3,8] (fun _ av t wr=>∃(i:Nat) (A:Int),t= .int .i64 i∧av= .int .i64 A∧i≤x.length∧ -1≤A∧A≤200∧Ext w wr∧Hid (mayI (x.drop i) A=R)) (fun _ _ t _=>downV x.length t)
 case atStart=>exact⟨0, -1,rfl,rfl,Nat.zero_le _,by omega,by omega,Ext.refl _,HR⟩
 case round=>
  obtain⟨i,A,rfl,rfl,hi,hA1,hA2,hX,HI⟩:=hrel
  have hi0:=nZ0 i
  by_cases hlt:i< x.length
  ·
   have hlI:(i:Int)< (x.length:Int):=by omega
   obtain⟨g,o,rfl,lg,_,d0,d1⟩:=span_at (h.ext hX) i hlt
   have HS:Hid (mayI (x.drop i) A=if verB x[i].a=true then(if verB x[i].b=true then(if x[i].b< x[i].a then false else if x[i].a≤A+1∧0≤A then false else mayI (x.drop (i+1)) x[i].b)else false)else false):=Lh (by rw[drop_one x i hlt,mayI])
   obtain⟨s,hs⟩:∃s,x[i]=s:=⟨_,rfl⟩
   rw[hs]at d0 d1 HS
   obtain⟨wo,hwo⟩:∃wo,wo=wr:=⟨_,rfl⟩
   subst hwo
   clear hs
   obtain⟨P,hP⟩:∃P,verB s.a=P:=⟨_,rfl⟩
   obtain⟨Q,hQ⟩:∃Q,verB s.b=Q:=⟨_,rfl⟩
   have HV1:=Lh fun W=>version_any s.a W
   have HV2:=Lh fun W=>version_any s.b W
   have HQ:=Lh hQ
   rw[hP]at HV1 HS
   rw[hQ]at HV2 HS
   clear hP hQ
   cases P with
   | false=>
    have HN:Hid (false=R):=Lh (by rw[←HI.out,HS.out,if_neg kD])
    clear HS HI
    go_wp2_with fail
    refine(HV1.out _).mono ?_
    rintro e w1 ⟨rfl,rfl⟩
    go_wp2_with fail
    go_ret
    exact⟨ret_bool HN.out,hX.alloc _⟩
   | true=>
    cases Q with
    | false=>
     have HN:Hid (false=R):=Lh (by rw[←HI.out,HS.out,if_pos rfl,if_neg kD])
     clear HS HI
     go_wp2_with fail
     refine(HV1.out _).mono ?_
     rintro e w1 ⟨rfl,rfl⟩
     go_wp2_with fail
     refine(HV2.out _).mono ?_
     rintro e w1 ⟨rfl,rfl⟩
     go_wp2_with fail
     go_ret
     exact⟨ret_bool HN.out,hX.alloc _⟩
    | true=>
     have hqb:=of_decide_eq_true HQ.out
     obtain⟨hqb1,hqb2⟩:=hqb
     clear HQ
     by_cases hba:s.b< s.a
     ·
      have HN:Hid (false=R):=Lh (by rw[←HI.out,HS.out,if_pos rfl,if_pos rfl,if_pos hba])
      clear HS HI
      go_wp2_with fail
      refine(HV1.out _).mono ?_
      rintro e w1 ⟨rfl,rfl⟩
      go_wp2_with fail
      refine(HV2.out _).mono ?_
      rintro e w1 ⟨rfl,rfl⟩
      go_wp2_with fail
      go_ret
      exact⟨ret_bool HN.out,hX.alloc _⟩
     ·
      by_cases hc1:s.a≤A+1
      ·
       by_cases hc2:0≤A
       ·
        have HN:Hid (false=R):=Lh (by rw[←HI.out,HS.out,if_pos rfl,if_pos rfl,if_neg hba,if_pos ⟨hc1,hc2⟩])
        clear HS HI
        go_wp2_with fail
        refine(HV1.out _).mono ?_
        rintro e w1 ⟨rfl,rfl⟩
        go_wp2_with fail
        refine(HV2.out _).mono ?_
        rintro e w1 ⟨rfl,rfl⟩
        go_wp2_with fail
        go_ret
        exact⟨ret_bool HN.out,hX.alloc _⟩
       ·
        have HN:Hid (mayI (x.drop (i+1)) s.b=R):=Lh (by rw[←HI.out,HS.out,if_pos rfl,if_pos rfl,if_neg hba,if_neg kA])
        clear HS HI
        go_wp2_with fail
        refine(HV1.out _).mono ?_
        rintro e w1 ⟨rfl,rfl⟩
        go_wp2_with fail
        refine(HV2.out _).mono ?_
        rintro e w1 ⟨rfl,rfl⟩
        go_wp2_with fail
        go_roundw
        case rel=>exact⟨i+1,s.b,by go_num,rfl,by omega,by omega,by omega,hX.alloc _,HN⟩
        case measure=>exact mZ
      ·
       have HN:Hid (mayI (x.drop (i+1)) s.b=R):=Lh (by rw[←HI.out,HS.out,if_pos rfl,if_pos rfl,if_neg hba,if_neg kA])
       clear HS HI
       go_wp2_with fail
       refine(HV1.out _).mono ?_
       rintro e w1 ⟨rfl,rfl⟩
       go_wp2_with fail
       refine(HV2.out _).mono ?_
       rintro e w1 ⟨rfl,rfl⟩
       go_wp2_with fail
       go_roundw
       case rel=>exact⟨i+1,s.b,by go_num,rfl,by omega,by omega,by omega,hX.alloc _,HN⟩
       case measure=>exact mZ
  ·
   have hlI:¬(i:Int)< (x.length:Int):=by omega
   have HN:Hid (true=R):=Lh (by rw[←HI.out,List.drop_of_length_le kA,mayI])
   clear HI
   go_wp2_with fail
   go_ret
   exact⟨ret_bool HN.out,hX⟩
theorem itoa2_any (w:World):Calls Tryz.prog 41 #[.int .i64 2] w fun e w'=>e= .returned (.string (bs [50]))∧Ext w w':=by
 have h0:Calls Tryz.prog 138 #[.int .i64 2] w fun e w'=>e= .returned (.string (bs [50]))∧w'=w:=by
  go_enter Tryz.func138,Tryz.ntmps138
  go_wp2_with fail
  go_ret
  exact⟨rfl,rfl⟩
 have h1:Calls Tryz.prog 102 #[.int .i64 2,.int .i64 10] w fun e w'=>e= .returned (.string (bs [50]))∧w'=w:=by
  go_enter Tryz.func102,Tryz.ntmps102
  go_wp2_with fail
  refine h0.mono ?_
  rintro e w1 ⟨rfl,rfl⟩
  go_wp2_with fail
  go_ret
  exact⟨rfl,rfl⟩
 have h2:Calls Tryz.prog 69 #[.int .i64 2] w fun e w'=>e= .returned (.string (bs [50]))∧w'=w:=by
  go_enter Tryz.func69,Tryz.ntmps69
  go_wp2_with fail
  refine h1.mono ?_
  rintro e w1 ⟨rfl,rfl⟩
  go_wp2_with fail
  go_ret
  exact⟨rfl,rfl⟩
 go_enter Tryz.func41,Tryz.ntmps41
 go_wp2_with fail
 refine h2.mono ?_
 rintro e w1 ⟨rfl,rfl⟩
 go_wp2_with fail
 go_ret
 exact⟨rfl,Ext.refl _⟩
theorem join1_any (p:Nat→Prop) (s:Bytes) (sep:ByteArray) (v:Value) (w:World) (h:Rep w p v (strsD [s])):
  Calls Tryz.prog 42 #[v,.string sep] w fun e w'=>e= .returned (.string (bs s))∧Ext w w':=by
 obtain⟨a,c,rfl,hc1,hc2⟩:=h.count z_str kA
 obtain⟨g,o,rfl,lg,_,d0⟩:=str_at h 0 kI
 rw[Nat.add_zero]at d0
 simp only[List.length_cons,List.length_nil,Nat.zero_add,List.getElem_cons_zero]at*
 go_enter Tryz.func42,Tryz.ntmps42
 go_wp2_with fail
 go_ret
 exact⟨rfl,Ext.refl _⟩
theorem text22_any (p:Nat→Prop) (v:Value) (w:World) (h:Rep w p v (spansD [⟨2,2⟩])):
  Calls Tryz.prog 22 #[v] w fun e w'=>e= .returned (.string (bs [50]))∧Ext w w':=by
 have HM:=Lh (may_set [⟨2,2⟩] p v w h)
 have hmm:mayI [⟨2,2⟩] (-1)=true:=by decide
 rw[hmm]at HM
 obtain⟨x,c,rfl,hc1,hc2⟩:=h.count z_span kA
 obtain⟨i0,hi,hz0,hz1,hz2⟩:=info_parts infoStr
 have hlen:([⟨2,2⟩]:List Span).length=1:=rfl
 rw[hlen]at hc1 HM h⊢
 have HR:=Lh h
 clear hmm hlen h
 go_enter Tryz.func22,Tryz.ntmps22
 go_wp2_with fail
 refine HM.out.mono ?_
 rintro e w1 ⟨rfl,hB1⟩
 clear HM
 go_wp2_with fail
 go_loopw [3,6,12] (fun o _ t wr=>(t= .int .i64 0∧o= .slice none 0 0∧Ext w wr∧Ext w1 wr)∨∃oa oc,t= .int .i64 1∧o= .slice oa 1 oc∧Ext w wr∧Hid (Own wr (fun _=>False) w1.heap.size 9 1 (.slice oa 1 oc) 1 ([([50]:Bytes)].flatMap fun x=> [strD x]))) (fun _ _ t _=>downV 1 t)
 case atStart=>exact .inl ⟨rfl,rfl,hB1,Ext.refl _⟩
 case round=>
  rcases hrel with⟨rfl,rfl,hX,hX1⟩ | ⟨oa,oc,rfl,rfl,hX,HO⟩
  ·
   obtain⟨wo,hwo⟩:∃wo,wo=wr:=⟨_,rfl⟩
   subst hwo
   obtain⟨g,o,rfl,lg,_,d0,d1⟩:=span_at (HR.out.ext hX) 0 kI
   simp only[List.getElem_cons_zero,Nat.zero_mul,Nat.add_zero]at d0 d1
   obtain⟨wB,hwB⟩:∃wB,wo.alloc (.cells #[.int .i64 2,.int .i64 2] 89)=wB:=⟨_,rfl⟩
   have hEB:Ext wo wB:=by rw[←hwB];exact(Ext.refl wo).alloc _
   have b0:wB.cell? ⟨wo.heap.size,0,none⟩=some (.int .i64 2):=by rw[←hwB];simp[go_sem]
   have b1:wB.cell? ⟨wo.heap.size,1,none⟩=some (.int .i64 2):=by rw[←hwB];simp[go_sem]
   have lB:wo.heap.size< wB.heap.size:=by rw[←hwB];simp
   have HWB:=Lh hwB
   have HI:=Lh (itoa2_any wB)
   clear hwB
   go_wp2_with fail
   rw[HWB.out]
   refine HI.out.mono ?_
   rintro e w2 ⟨rfl,hB2⟩
   have c0:=hB2.keep lB b0
   have c1:=hB2.keep lB b1
   have lC:wo.heap.size< w2.heap.size:=Nat.lt_of_lt_of_le lB hB2.size
   have hX2:=(hX.trans hEB).trans hB2
   have hX14:=hX1.trans hEB
   clear HI HWB b0 b1 lB d0 d1
   have hsz1:w1.heap.size≤w2.heap.size:=by have:=hX14.size;have:=hB2.size;omega
   go_wp2_with (at_builtin;refine wpList_append_own_at _ rfl (.tmp 30) (.tmp 32) _ rfl w1.heap.size 9 i0 (.string ⟨#[]⟩) 1 16 Tryz.underlying27 hi hz0 hz1 hz2 rfl kD (.slice none 0 0) 0 [] rfl (World.ownsRow_nil _ _ _ _) ⟨w2.heap.size,0,none⟩ 1 1 [.string (bs [50])] rfl rfl (new_cells _) kT kC kA kM ?_;intro v2 w5 hown5 hgrow5 _ hat5)
   obtain⟨o2a,o2c,rfl⟩:=own_form hown5
   have hXA:=hX2.alloc (.cells #[.string (bs [50])] 9)
   have hX5:Ext w w5:=Below.grown hXA hgrow5 (Below.size hXA) fun k hk=>by cases hk
   have hO5:Hid (Own w5 (fun _=>False) w1.heap.size 9 1 (.slice o2a 1 o2c) 1 ([([50]:Bytes)].flatMap fun x=> [strD x])):=Lh ⟨_,hown5,by
    rw[List.nil_append,show(bs [50]:ByteArray)=bs [50] by kernel_rfl]
    exact Reps.cons (Rep.string _ _ _ kD) (Reps.nil _ _)⟩
   clear hown5 hgrow5 hat5 hXA
   go_wp2_with fail
   go_roundw
   case rel=>exact .inr ⟨o2a,o2c,rfl,rfl,hX5,hO5⟩
   case measure=>decide
  ·
   have hrep:Rep wr (fun b=>False∨w1.heap.size≤b) (.slice oa 1 oc) (strsD [[50]]):=HO.out.rep
   have HJ:=Lh (join1_any _ [50] ⟨#[44]⟩ (.slice oa 1 oc) wr hrep)
   clear HO hrep
   go_wp2_with fail
   refine HJ.out.mono ?_
   rintro e w3 ⟨rfl,hB3⟩
   go_wp2_with fail
   go_ret
   exact⟨rfl,hX.trans hB3⟩
theorem rep_lit {w:World} {cs:Array Value} {e:TypeId} {n z:Nat} {es:List DV} (hs:cs.size=n*z) (hl:es.length=n*z) (hn:n≤9223372036854775807) (hr:Reps w (fun _=>True) cs.toList es):
  Rep (w.alloc (.cells cs e)) (fun _=>True) (.slice (some ⟨w.heap.size,0,none⟩) n n) (.s z es):=by
 have hr':=hr.ext ((Ext.refl w).alloc (.cells cs e))
 refine .row w.heap.size 0 n n z cs.toList es (fun _=>trivial) hl (by simpa using hs) (Nat.le_refl _) hn (fun k u hk=> ?_) hr'.2
 rw[Nat.zero_add]
 have h:=World.cell?_alloc_mark w cs e (0,0) k
 rw[h,←hk];simp
theorem mayG_at:∀(l:List Span) (lo:Int),mayG lo l→∀(i:Nat) (h:i< l.length),lo≤l[i].a∧l[i].a≤l[i].b∧l[i].b≤200
 | [],_,_,i,h=>absurd h (Nat.not_lt_zero _)
 | s::r,lo,⟨h1,h2,h3,h4⟩,0,h=>⟨h1,h2,h3⟩
 | s::r,lo,⟨h1,h2,h3,h4⟩,i+1,h=>by
  obtain⟨a,b,c⟩:=mayG_at r _ h4 i kJ
  rw[List.getElem_cons_succ]
  exact⟨by omega,b,c⟩
theorem blk_cells {w:World} {g:Nat} {xs:List Value} {e:TypeId} (h:w.heap[g]? =some (.cells xs.toArray e (0,0))) (k:Nat) {u:Value} (hk:xs[k]? =some u):w.cell? ⟨g,k,none⟩=some u:=blk_cell h (by simpa using hk)
def idxF {α:Type} (f:α→Bool):List α→Nat→Int
 | [],_=> -1
 | n::r,i=>if f n=true then(i:Int)else idxF f r (i+1)
theorem idxF_any {α:Type} (f:α→Bool):∀(l:List α) (i:Nat),l.any f=decide (0≤idxF f l i)
 | [],i=>rfl
 | n::l,i=>by
  unfold idxF
  rw[List.any_cons]
  cases h:f n with
  | true=>rw[if_pos rfl,decide_eq_true kA];rfl
  | false=>rw[if_neg kD,Bool.false_or];exact idxF_any f l (i+1)
theorem hasfn_any (s:Span) (v:Int) (b:Nat) (w:World) (hb:b< w.heap.size) (c0:w.cell? ⟨b,0,none⟩=some (.int .i64 v)):
  Calls Tryz.prog 118 #[.agg #[.int .i64 s.a,.int .i64 s.b],.pointer (some ⟨b,0,none⟩)] w fun e w'=>e= .returned (.bool (atS v s))∧Ext w w':=by
 have c1:(w.alloc (.cells #[.int .i64 s.a,.int .i64 s.b] 89)).cell? ⟨b,0,none⟩=some (.int .i64 v):=((Ext.refl w).alloc _).keep hb c0
 by_cases h1:s.a≤v
 ·
  by_cases h2:v≤s.b
  ·
   rw[show atS v s=true from decide_eq_true ⟨h1,h2⟩]
   go_enter Tryz.func118,Tryz.ntmps118
   go_wp2_with fail
   go_ret
   exact⟨rfl,(Ext.refl w).alloc _⟩
  ·
   rw[show atS v s=false from decide_eq_false kA]
   go_enter Tryz.func118,Tryz.ntmps118
   go_wp2_with fail
   go_ret
   exact⟨rfl,(Ext.refl w).alloc _⟩
 ·
  rw[show atS v s=false from decide_eq_false kA]
  go_enter Tryz.func118,Tryz.ntmps118
  go_wp2_with fail
  go_ret
  exact⟨rfl,(Ext.refl w).alloc _⟩
theorem indexsp_any (p:Nat→Prop) (l:List Span) (n:Int) (v:Value) (b:Nat) (w:World) (h:Rep w p v (spansD l)) (hb:b< w.heap.size) (c0:w.cell? ⟨b,0,none⟩=some (.int .i64 n)):
  Calls Tryz.prog 151 #[v,.func (.func 118) #[] #[.pointer (some ⟨b,0,none⟩)]] w fun e w'=>e= .returned (.int .i64 (idxF (atS n) l 0))∧Ext w w':=by
 obtain⟨a,c,rfl,hc1,hc2⟩:=h.count z_span kA
 obtain⟨R,hR⟩:∃R,idxF (atS n) l 0=R:=⟨_,rfl⟩
 rw[hR]
 have HR:=Lh hR
 have HC0:=Lh c0
 clear hR c0
 go_enter Tryz.func151,Tryz.ntmps151
 go_wp2_with fail
 go_loopw [5,8] (fun _ t wr=>∃i:Nat,t= .int .i64 i∧i≤l.length∧Ext w wr∧Hid (idxF (atS n) (l.drop i) i=R)) (fun _ t _=>downV l.length t)
 case atStart=>exact⟨0,rfl,Nat.zero_le _,Ext.refl _,HR⟩
 case round=>
  obtain⟨i,rfl,hi,hX,HI⟩:=hrel
  have hi0:=nZ0 i
  by_cases hlt:i< l.length
  ·
   have hlI:(i:Int)< (l.length:Int):=by omega
   obtain⟨g,o,rfl,lg,_,d0,d1⟩:=span_at (h.ext hX) i hlt
   have HS:Hid (idxF (atS n) (l.drop i) i=if atS n l[i]=true then(i:Int)else idxF (atS n) (l.drop (i+1)) (i+1)):=Lh (by rw[drop_one l i hlt];rfl)
   obtain⟨s,hs⟩:∃s,l[i]=s:=⟨_,rfl⟩
   rw[hs]at d0 d1 HS
   have HC:=Lh (hasfn_any s n b wr (Nat.lt_of_lt_of_le hb hX.size) (hX.keep hb HC0.out))
   obtain⟨B,hB⟩:∃B,atS n s=B:=⟨_,rfl⟩
   rw[hB]at HC HS
   clear hs hB
   go_wp2_with fail
   refine HC.out.mono ?_
   rintro e w1 ⟨rfl,hB1⟩
   cases B with
   | true=>
    have HN:Hid ((i:Int)=R):=Lh kV
    clear HS HI
    go_wp2_with fail
    go_ret
    exact⟨ret_int HN.out,hX.trans hB1⟩
   | false=>
    have HN:Hid (idxF (atS n) (l.drop (i+1)) (i+1)=R):=Lh (by have:=HS.out;rw[if_neg kD]at this;rw[←this];exact HI.out)
    clear HS HI
    go_wp2_with fail
    go_roundw
    case rel=>exact⟨i+1,by go_num,by omega,hX.trans hB1,HN⟩
    case measure=>exact mZ
  ·
   have hlI:¬(i:Int)< (l.length:Int):=by omega
   have HN:Hid ((-1:Int)=R):=Lh (by
    have:=HI.out
    rw[List.drop_of_length_le kA]at this
    exact this)
   clear HI
   go_wp2_with fail
   go_ret
   exact⟨ret_int HN.out,hX⟩
theorem contains_any (p:Nat→Prop) (l:List Span) (n:Int) (v:Value) (b:Nat) (w:World) (h:Rep w p v (spansD l)) (hb:b< w.heap.size) (c0:w.cell? ⟨b,0,none⟩=some (.int .i64 n)):
  Calls Tryz.prog 117 #[v,.func (.func 118) #[] #[.pointer (some ⟨b,0,none⟩)]] w fun e w'=>e= .returned (.bool (l.any (atS n)))∧Ext w w':=by
 have HC:=Lh (indexsp_any p l n v b w h hb c0)
 have hA:=idxF_any (atS n) l 0
 rw[hA]
 obtain⟨R,hR⟩:∃R,idxF (atS n) l 0=R:=⟨_,rfl⟩
 rw[hR]at HC⊢
 clear hA hR h c0
 go_enter Tryz.func117,Tryz.ntmps117
 go_wp2_with fail
 refine HC.out.mono ?_
 rintro e w1 ⟨rfl,hB1⟩
 clear HC
 by_cases h0:0≤R
 ·
  have HN:=Lh (decide_eq_true h0)
  go_wp2_with fail
  go_ret
  exact⟨ret_bool HN.out.symm,hB1⟩
 ·
  go_wp2_with fail
  go_ret
  exact⟨rfl,hB1⟩
theorem ihas_any (l:List Span) (n:Int) (p:Nat→Prop) (v:Value) (w:World) (h:Rep w p v (spansD l)):
  Calls Tryz.prog 79 #[v,.int .i64 n] w fun e w'=>e= .returned (.bool (hasV l n))∧Ext w w':=by
 obtain⟨wb,hwb⟩:∃W,w.alloc (.cells #[.int .i64 n] 3)=W:=⟨_,rfl⟩
 have hE:Ext w wb:=by rw[←hwb];exact(Ext.refl w).alloc _
 have hz:wb.heap.size=w.heap.size+1:=by rw[←hwb];simp
 have hc:wb.cell? ⟨w.heap.size,0,none⟩=some (.int .i64 n):=by rw[←hwb];simp[go_sem]
 have HM:=Lh (may_set l p v wb (h.ext hE))
 have HC:=Lh fun W (hB:Ext wb W)=>contains_any p l n v w.heap.size W ((h.ext hE).ext hB) (by have:=hB.size;omega) (hB.keep kA hc)
 unfold hasV
 obtain⟨M,hM⟩:∃M,mayI l (-1)=M:=⟨_,rfl⟩
 obtain⟨A,hA⟩:∃A,l.any (atS n)=A:=⟨_,rfl⟩
 rw[hM]at HM⊢
 rw[hA]at HC⊢
 clear hM hA h hz hc
 cases M with
 | true=>
  rw[Bool.true_and]
  go_enter Tryz.func79,Tryz.ntmps79
  go_wp2_with fail
  refine HM.out.mono ?_
  rintro e w1 ⟨rfl,hB1⟩
  clear HM
  go_wp2_with fail
  refine(HC.out _ hB1).mono ?_
  rintro e w2 ⟨rfl,hB2⟩
  clear HC
  go_wp2_with fail
  go_ret
  exact⟨rfl,hE.trans (hB1.trans hB2)⟩
 | false=>
  rw[Bool.false_and]
  go_enter Tryz.func79,Tryz.ntmps79
  go_wp2_with fail
  refine HM.out.mono ?_
  rintro e w1 ⟨rfl,hB1⟩
  clear HM HC
  go_wp2_with fail
  go_ret
  exact⟨rfl,hE.trans hB1⟩
def cutL (n k:Nat):Array Bool:=(List.replicate k true++List.replicate (n - k) false).toArray
def QCut (P:Program) (ops:Array Oper) (k:Nat) (Q:Exit→Act→World→Prop):Exit→Act→World→Prop
 | .normal,a,w=>∀fuel,ops.size - k≤fuel→wpAny P .any ops Q fuel (cutL ops.size k) a w
 | e,a,w=>Q e a w
section
variable {P:Program} {ops ops1:Array Oper} {Q:Exit→Act→World→Prop}
def Shut (ops:Array Oper) (listed:Array Bool):Prop:=∀i:Nat,listed.getD i false=true→∀o,ops[i]? =some o→∀e∈o.after,Region.binds .any e=true→listed.getD e.on false=true
theorem Shut.waits {listed:Array Bool} (h:Shut ops listed):∀(n i j:Nat),(∀o,ops[i]? =some o→∀e∈o.after,Region.binds .any e=true→listed.getD e.on false=true)→waits ops n i j=true→listed.getD j false=true
 | 0,i,j,_,hw=>by cases hw
 | n+1,i,j,hi,hw=>by
  unfold Go.Proofs.YtngmgjodcnknoaaGreatDoor.waits at hw
  cases ho:ops[i]? with
  | none=>rw[ho]at hw;cases hw
  | some o=>
   rw[ho]at hw
   simp only[Option.map_some,Option.getD_some,Array.any_eq_true',Bool.and_eq_true,Bool.or_eq_true,beq_iff_eq]at hw
   obtain⟨e,he,hb,h2⟩:=hw
   have h1:=hi o ho e he hb
   rcases h2 with h2 | h2
   ·
    rw[←h2];exact h1
   ·
    exact Shut.waits h n e.on j (h e.on h1) h2
theorem upon_qcut (k:Nat) (o:Oper) (a:Act) (K:Act→World→Prop) (r:Result Next) (h:o.upon P a K (QCut P ops k Q) r):o.upon P a K Q r:=by
 cases r with
 | ok n w'=>
  cases n
  case enter f args=>
   refine Calls.mono h fun e w'' he=> ?_
   cases e<;> exact he
  all_goals exact h
 | halt x w'=>cases x<;> exact h
theorem getD_false {listed:Array Bool} {j:Nat} (hj:j< listed.size) (b:Bool):listed.getD j b=listed.getD j false:=by simp[Array.getD,hj]
theorem wpAny_cut (k:Nat) (hk:k≤ops.size) (h1:∀i:Nat,ops1[i]? =if i< k then ops[i]? else none)
  (hord:∀(i:Nat) (o:Oper),i< k→ops[i]? =some o→(∀e∈o.after,Region.binds .any e=true→e.on< i)∧∀j b,o.guard=some (j,b)→j< k)
  (hpost:∀i:Nat,i< ops.size→k≤i→∀j,j< k→waits ops ops.size i j=true):
  ∀(fuel1:Nat) (listed:Array Bool) (a:Act) (w:World),listed.size=ops.size→Shut ops listed→(∀j,k≤j→j< ops.size→listed.getD j false=false)→
   wpAny P .any ops1 (QCut P ops k Q) fuel1 listed a w→∀fuel,fuel1+(ops.size - k)≤fuel→wpAny P .any ops Q fuel listed a w:=by
 have hnone:∀(listed:Array Bool) (a:Act) (w:World),listed.size=ops.size→(∀j,k≤j→j< ops.size→listed.getD j false=false)→Region.ready .any ops1 listed= []→QCut P ops k Q .normal a w→∀fuel,ops.size - k≤fuel→wpAny P .any ops Q fuel listed a w:=by
  intro listed a w hls hlo hr hq fuel hf
  have hall:∀j,j< k→listed.getD j false=true:=by
   intro j
   induction j using Nat.strongRecOn with
   | ind j ih=>
    intro hj
    cases hl:listed.getD j false with
    | true=>rfl
    | false=>
     exfalso
     have hjo:j< ops.size:=by omega
     have ho:ops[j]? =some ops[j]:=Array.getElem?_eq_getElem hjo
     have hm:j∈Region.ready .any ops1 listed:=mem_ready.2 ⟨by rw[getD_false kA];exact hl,ops[j],by rw[h1,if_pos hj,ho],fun e he hb=>ih e.on ((hord j _ hj ho).1 e he hb) (by have:=(hord j _ hj ho).1 e he hb;omega)⟩
     rw[hr]at hm;cases hm
  have he:listed=cutL ops.size k:=by
   apply Array.ext
   ·
    simp[cutL];omega
   ·
    intro i hi1 hi2
    have hg:listed.getD i false=listed[i]:=by simp[Array.getD,hi1]
    by_cases hik:i< k
    ·
     rw[←hg,hall i hik];simp[cutL,List.getElem_append,hik]
    ·
     rw[←hg,hlo i kA kA];simp[cutL,List.getElem_append,hik]
  rw[he]
  exact hq fuel hf
 have hsub:∀(listed:Array Bool) (i:Nat),i< k→(i∈Region.ready .any ops listed↔i∈Region.ready .any ops1 listed):=fun listed i hi=>by
  rw[mem_ready,mem_ready,h1,if_pos hi]
 intro fuel1
 induction fuel1 with
 | zero=>
  intro listed a w hls hsh hlo h fuel hf
  exact hnone listed a w hls hlo h.1 h.2 fuel kA
 | succ fuel1 ih=>
  intro listed a w hls hsh hlo h fuel hf
  by_cases hr:Region.ready .any ops1 listed= []
  ·
   exact hnone listed a w hls hlo hr (h.1 hr) fuel kA
  ·
   obtain⟨f,rfl⟩:∃f,fuel=f+1:=⟨fuel - 1,by omega⟩
   refine⟨fun he=> ?_,fun i hi=> ?_⟩
   ·
    obtain⟨j,hj⟩:=List.exists_mem_of_ne_nil _ hr
    have hjk:j< k:=by
     obtain⟨_,o,ho,_⟩:=mem_ready.1 hj
     rw[h1]at ho
     by_cases c:j< k
     ·
      exact c
     ·
      rw[if_neg c]at ho;cases ho
    have:=(hsub listed j hjk).2 hj
    rw[he]at this;cases this
   ·
    obtain⟨hu,o,ho,hal⟩:=mem_ready.1 hi
    have his:i< ops.size:=(Array.getElem?_eq_some_iff.1 ho).1
    have hik:i< k:=by
     by_cases c:i< k
     ·
      exact c
     ·
      exfalso
      obtain⟨j,hj⟩:=List.exists_mem_of_ne_nil _ hr
      obtain⟨hju,o',ho',_⟩:=mem_ready.1 hj
      rw[h1]at ho'
      by_cases cj:j< k
      ·
       have hw:=hsh.waits ops.size i j (fun o2 ho2 e he hb=>by rw[ho]at ho2;cases ho2;exact hal e he hb) (hpost i his kA j cj)
       rw[getD_false kA]at hju
       rw[hju]at hw;cases hw
      ·
       rw[if_neg cj]at ho';cases ho'
    have h2:=h.2 i ((hsub listed i hik).1 hi)
    have h3:=wpOp_mono (fun a' w' h'=>ih (listed.setIfInBounds i true) a' w' (by simpa using hls) (fun i' hi' o2 ho2 e he hb=>by
     have hlt:∀m:Nat,listed.getD m false=true→(listed.setIfInBounds i true).getD m false=true:=fun m hm=>by
      by_cases hmi:i=m
      ·
       subst hmi;simp[Array.getD,hls,his]
      ·
       rw[getD_set_ne false hmi];exact hm
     by_cases hii:i=i'
     ·
      subst hii
      rw[ho]at ho2;cases ho2
      exact hlt _ (hal e he hb)
     ·
      rw[getD_set_ne false hii]at hi'
      exact hlt _ (hsh i' hi' o2 ho2 e he hb)) (fun j hj1 hj2=>by rw[getD_set_ne false kA];exact hlo j hj1 hj2) h' f kA) h2
    unfold wpOp at h3⊢
    rw[h1,if_pos hik]at h3
    simp only[ho]at h3⊢
    have hy:Region.wanted o (yielded ops1 a.tmps)=Region.wanted o (yielded ops a.tmps):=by
     unfold Region.wanted
     cases hg:o.guard with
     | none=>rfl
     | some g=>
      obtain⟨j,b⟩:=g
      have hj:=(hord i o hik ho).2 j b hg
      simp only
      have:yielded ops1 a.tmps j=yielded ops a.tmps j:=by unfold yielded;rw[h1,if_pos hj]
      rw[this]
    rw[hy]at h3
    split at h3
    ·
     rename_i hw
     rw[if_pos hw]
     rcases h3 with h3 | ⟨h3,h4⟩
     ·
      exact Or.inl (upon_qcut k o a _ _ h3)
     ·
      exact Or.inr ⟨h3,h4⟩
    ·
     rename_i hw
     rw[if_neg hw]
     exact h3
theorem rg_cut {S:World→Prop} {id:Nat} {a:Act} {w:World} (k:Nat) (hm:P.follows .mixedOrders=true) (hk:decide (k≤ops.size)=true)
  (hord:((List.range k).all fun i=>((ops[i]?).map fun o=>(o.after.all fun e=> !Region.binds .any e || decide (e.on< i)) && (match o.guard with | none=>true | some (j,_)=>decide (j< k))).getD true)=true)
  (hpost:((List.range ops.size).all fun i=>decide (i< k) || (List.range k).all fun j=>waits ops ops.size i j)=true)
  (hS:S w.drew) (h:wpAnyH P .any (ops.toList.take k).toArray (QCut P ops k Q) S k (Array.replicate ops.size false) a w.drew):(Code.region id ops true).wp P Q a w:=by
 refine wp_region_any hm (wpAny_cut (ops1:=(ops.toList.take k).toArray) k (of_decide_eq_true hk) (fun i=> ?_) (fun i o hi ho=> ?_) (fun i hi hki j hj=> ?_) k _ a _ kI (fun i hi=>by simp[Array.getD]at hi) (fun j _ hj=>by simp[Array.getD]) (wpAny_of_held _ _ _ _ h) _ (by have:=of_decide_eq_true hk;omega))
 ·
  simp[List.getElem?_take]
 ·
  have h:=(List.all_eq_true.1 hord) i (List.mem_range.2 hi)
  rw[ho]at h
  simp only[Option.map_some,Option.getD_some,Bool.and_eq_true,Array.all_eq_true',Bool.or_eq_true,Bool.not_eq_true',decide_eq_true_eq]at h
  refine⟨fun e he hb=> ?_,fun j b hg=> ?_⟩
  ·
   rcases h.1 e he with h2 | h2
   ·
    rw[hb]at h2;cases h2
   ·
    exact h2
  ·
   have h2:=h.2
   rw[hg]at h2
   exact of_decide_eq_true h2
 ·
  have h:=(List.all_eq_true.1 hpost) i (List.mem_range.2 hi)
  rw[Bool.or_eq_true]at h
  rcases h with h | h
  ·
   have:=of_decide_eq_true h;omega
  ·
   exact(List.all_eq_true.1 h) j (List.mem_range.2 hj)
theorem rg_go {k:Nat} {a:Act} {w:World} (r:Nat) (L:Array Bool) (hL:cutL ops.size k=L) (hr:ops.size - k=r) (h:∀m,wpAnyH P .any ops Q (fun _=>True) (m+r) L a w):QCut P ops k Q .normal a w:=fun fuel hf=>by
 obtain⟨m,rfl⟩:∃m,fuel=m+r:=⟨fuel - r,by omega⟩
 rw[hL]
 exact wpAny_of_held _ _ _ _ (h m)
end
def spanV (l:List Span):List Value:=l.flatMap fun s=> [.int .i64 s.a,.int .i64 s.b]
def putS:List Span→Span→List Span
 | [],s=> [s]
 | [t],s=>if s.a≤t.b+1 then [⟨t.a,if t.b< s.b then s.b else t.b⟩]else [t,s]
 | t::u::r,s=>t::putS (u::r) s
theorem mayG_head:∀(l:List Span) (lo:Int),mayG lo l→∀t∈l,lo≤t.a∧t.a≤t.b∧t.b≤200
 | [],_,_,t,ht=>by cases ht
 | s::r,lo,⟨h1,h2,h3,h4⟩,t,ht=>by
  rcases List.mem_cons.1 ht with e | ht
  ·
   rw[e];exact⟨h1,h2,h3⟩
  ·
   have:=mayG_head r _ h4 t ht
   exact⟨by omega,this.2⟩
theorem inS_mem {l:List Span} {t:Span} (h:t∈l) {v:Int} (h1:t.a≤v) (h2:v≤t.b):inS l v=true:=List.any_eq_true.2 ⟨t,h,decide_eq_true ⟨h1,h2⟩⟩
theorem mayG_uniq:∀(a b:List Span) (lo:Int),mayG lo a→mayG lo b→(∀v,inS a v=inS b v)→a=b
 | [],[],_,_,_,_=>rfl
 | [],t::y,_,_,hb,h=>by
  have:=h t.a
  rw[inS_mem List.mem_cons_self (Int.le_refl _) hb.2.1]at this
  cases this
 | s::x,[],_,ha,_,h=>by
  have:=h s.a
  rw[inS_mem List.mem_cons_self (Int.le_refl _) ha.2.1]at this
  cases this
 | s::x,t::y,lo,ha,hb,h=>by
  obtain⟨a1,a2,a3,a4⟩:=ha
  obtain⟨b1,b2,b3,b4⟩:=hb
  have e1:∀v,inS (s::x) v=(decide (s.a≤v∧v≤s.b) || inS x v):=fun v=>by rw[inS,List.any_cons];rfl
  have e2:∀v,inS (t::y) v=(decide (t.a≤v∧v≤t.b) || inS y v):=fun v=>by rw[inS,List.any_cons];rfl
  have o1:∀v,v< s.b+2→inS x v=false:=fun v hv=>inS_out x _ a4 v (.inl hv)
  have o2:∀v,v< t.b+2→inS y v=false:=fun v hv=>inS_out y _ b4 v (.inl hv)
  have hh:∀v,v< s.b+2→v< t.b+2→((s.a≤v∧v≤s.b)↔(t.a≤v∧v≤t.b)):=fun v h1 h2=>by
   have:=h v
   rw[e1,e2,o1 v h1,o2 v h2,Bool.or_false,Bool.or_false]at this
   rw[←decide_eq_true_iff (p:=s.a≤v∧v≤s.b),this,decide_eq_true_iff]
  have hab:s.a=t.a:=by
   by_cases c:s.a≤t.a
   ·
    have h1:=hh s.a kA kA
    omega
   ·
    have h1:=hh t.a kA kA
    omega
  have hbb:s.b=t.b:=by
   by_cases c:s.b≤t.b
   ·
    by_cases d:s.b=t.b
    ·
     exact d
    ·
     have h1:=hh (s.b+1) kA kA
     omega
   ·
    have h1:=hh (t.b+1) kA kA
    omega
  have hst:s=t:=by cases s;cases t;simp_all
  subst hst
  rw[mayG_uniq x y _ a4 b4 fun v=>by
   by_cases c:v< s.b+2
   ·
    rw[o1 v c,o2 v c]
   ·
    have:=h v
    rw[e1,e2,decide_eq_false kA,Bool.false_or,Bool.false_or]at this
    exact this]
theorem heldsOf_k:∀(ds:List Node) (i k:Nat) (h:k< ds.length),(⟨((i+k:Nat):Int)+1,ds[k]⟩:Held)∈heldsOf ds i
 | [],_,_,h=>absurd h (Nat.not_lt_zero _)
 | d::r,i,0,_=>by rw[heldsOf];exact List.mem_cons_self
 | d::r,i,k+1,h=>by
  rw[heldsOf]
  have:=heldsOf_k r (i+1) k kJ
  rw[show i+1+k=i+(k+1) by omega]at this
  exact List.mem_cons_of_mem _ this
structure QN where
 kind:Int
 name:Bytes
 text:Bytes
 par:Int
 fin:Int
 path:Bytes
def qnC (q:QN):List DV:= [intD q.kind,strD q.name,strD q.text,intD q.par,intD q.fin,strD q.path]
def qnsD (l:List QN):DV:= .s 6 (l.flatMap qnC)
theorem z_qn (q:QN):(qnC q).length=6:=rfl
def qnV (q:QN):List Value:= [.int .i64 q.kind,.string (bs q.name),.string (bs q.text),.int .i64 q.par,.int .i64 q.fin,.string (bs q.path)]
def qnF (q:QN):Prop:=q.name.length≤1048576∧q.text.length≤1048576∧q.path.length≤2000000000000
theorem qnV_reps (w:World) (p:Nat→Prop):∀L:List QN,(∀q∈L,qnF q)→Reps w p (L.flatMap qnV) (L.flatMap qnC)
 | [],_=>Reps.nil _ _
 | q::L,h=>by
  rw[List.flatMap_cons,List.flatMap_cons]
  obtain⟨h1,h2,h3⟩:=h q (List.mem_cons_self ..)
  exact Reps.append (us:=qnV q) (es:=qnC q) (Reps.cons (Rep.int _ _ _ _) (Reps.cons (Rep.string _ _ _ kU) (Reps.cons (Rep.string _ _ _ kU) (Reps.cons (Rep.int _ _ _ _) (Reps.cons (Rep.int _ _ _ _) (Reps.cons (Rep.string _ _ _ kU) (Reps.nil _ _))))))) (qnV_reps w p L fun x hx=>h x (List.mem_cons_of_mem _ hx))
theorem qnV_len:∀L:List QN,(L.flatMap qnV).length=L.length*6
 | []=>rfl
 | q::L=>by rw[List.flatMap_cons,List.length_append,qnV_len L];show 6+_=(L.length+1)*6;omega
theorem kid_le:∀(l:List Node) (i:Nat) (h:i< l.length),cntN l[i]≤cntL l
 | [],i,h=>absurd h (Nat.not_lt_zero _)
 | a::r,0,h=>by rw[cntL];simp only[List.getElem_cons_zero];omega
 | a::r,i+1,h=>by have:=kid_le r i kJ;rw[cntL];simp only[List.getElem_cons_succ];omega
theorem cntN_own' (n:Node):1≤cntN n:=by cases n;rw[cntN];omega
theorem cntL_len':∀l:List Node,l.length≤cntL l
 | []=>by simp
 | n::r=>by have:=cntL_len' r;have:=cntN_own' n;rw[cntL,List.length_cons];omega
theorem cntN_own (n:Node):n.name.length+n.text.length+cntA n.attrs+cntL n.kids+1=cntN n:=by cases n;rw[cntN];simp only[Node.name,Node.text,Node.attrs,Node.kids];omega
theorem infoQN:(Tryz.prog.info? 81).map (fun i=>(i.zero,i.size,i.bytes))=some (some (.agg #[.int .i64 0,.string ⟨#[]⟩,.string ⟨#[]⟩,.int .i64 0,.int .i64 0,.string ⟨#[]⟩]),6,72):=by kernel_rfl
theorem exec_cat {ev:Operand→Value} {oi:Oper} {x y:Operand} {a b:ByteArray} {W:World} (ho:oi.op= .binOp .add 9 x y 9) (hx:ev x= .string a) (hy:ev y= .string b) (h:a.size+b.size≤9223372036854775807):
  (execOp ev oi).run Tryz.prog W= .ok (.value (.string (a++b))) W:=by
 have h':¬9223372036854775807< a.size+b.size:=by omega
 unfold execOp
 simp only[ho,hx,hy]
 go_simp
theorem one_qn (q:QN):∀u∈qnV q,u.oneCell'=true:=by intro u hu;simp[qnV]at hu;rcases hu with rfl | rfl | rfl | rfl | rfl | rfl<;> rfl
theorem one_qns (L:List QN):∀u∈L.flatMap qnV,u.oneCell'=true:=fun u hu=>by
 obtain⟨q,_,h⟩:=List.mem_flatMap.1 hu
 exact one_qn q u h
section
variable {ev:Operand→Value} {oi:Oper} {x y lo hi:Operand} {s:List UInt8} {i j:Nat}
section
variable {t u:TypeId} {k:IntKind} {B:Bool}
end
end
section
variable {ev:Operand→Value} {oi:Oper} {x y:Operand} {s t:List UInt8}
theorem exec_sadd (ho:oi.op= .binOp .add 9 x y 9) (hx:ev x= .string (bs s)) (hy:ev y= .string (bs t)) (h:s.length+t.length≤9000000000000000000) (W:World):(execOp ev oi).run Tryz.prog W= .ok (.value (.string (bs (s++t)))) W:=by
 have h1:¬9223372036854775807< (bs s).size+(bs t).size:=by rw[bs_size,bs_size];omega
 simp only[execOp,ho,hx,hy]
 simp[go_sem,h1,bs_append]
end
theorem own_slice {w:World} {base z n:Nat} {e:TypeId} {v:Value} {us:List Value} (h:w.ownsRow base e z v n us):∃a c,v= .slice a n c:=by
 obtain⟨_,h | ⟨g,cap,cs,h,_⟩⟩:=h
 ·
  obtain⟨rfl,rfl⟩:=h
  exact⟨_,_,rfl⟩
 ·
  exact⟨_,_,h⟩
def k4 (q:QN):R4:=(q.kind,q.name,q.text,q.path)
def qF (q:QN):Prop:=q.name.length≤1048576∧q.text.length≤1048576∧q.path.length≤1000000000000
def ok4 (r:R4):Prop:=r.2.1.length≤1048576∧r.2.2.1.length≤1048576∧r.2.2.2.length≤1000000000000
theorem heap_setCell_same' (W:World) (g i:Nat) (cs:Array Value) (e:TypeId) (u:Value) (h:W.heap[g]? =some (.cells cs e (0,0))):(W.setCell ⟨g,i,none⟩ u).heap[g]? =some (.cells (cs.setIfInBounds i u) e (0,0)):=by
 show(W.heap.modify g _)[g]? =_
 rw[Array.getElem?_modify,if_pos rfl,h];rfl
theorem take_set {α:Type} (l:List α) (n j:Nat) (u:α) (hj:j< n):(l.set j u).take n=(l.take n).set j u:=by
 rw[List.take_set]
theorem ownsRow_cell {w:World} {base z n rb m cap j:Nat} {e:TypeId} {us:List Value} (h:w.ownsRow base e z (.slice (some ⟨rb,0,none⟩) m cap) n us) (hj:j< n*z) (u:Value):(w.setCell ⟨rb,j,none⟩ u).ownsRow base e z (.slice (some ⟨rb,0,none⟩) m cap) n (us.set j u):=by
 obtain⟨h1,h2 | ⟨g,cap',cur,hv,hg,hh,h3,h4,h5,h6⟩⟩:=h
 ·
  cases h2.1
 ·
  cases hv
  refine⟨by rw[List.length_set];exact h1,.inr ⟨rb,cap,cur.setIfInBounds j u,rfl,hg,heap_setCell_same' w rb j cur e u hh,h3,h4,by rw[Array.size_setIfInBounds];exact h5,?_⟩⟩
  rw[Array.toList_setIfInBounds,take_set _ _ _ _ hj,h6]
structure BS (w0:World) (g:Nat) (W:World) (L:List QN):Prop where
 ext:Ext w0 W
 base:w0.heap.size≤g
 row:∃rv dv,W.heap[g]? =some (.cells #[rv,dv] 119)∧W.ownsRow w0.heap.size 81 6 dv L.length (L.flatMap qnV)∧some g≠dv.ownBlock
 fl:∀q∈L,qF q
def Fb (g:Nat) (W:World) (b:Nat):Prop:=b≠g∧∀dv,W.cell? ⟨g,1,none⟩=some dv→some b≠dv.ownBlock
structure BK (g:Nat) (W W':World):Prop where
 size:W.heap.size≤W'.heap.size
 keep:∀b,b< W.heap.size→Fb g W b→W'.heap[b]? =W.heap[b]? ∧Fb g W' b
theorem BK.refl (g:Nat) (W:World):BK g W W:=⟨Nat.le_refl _,fun _ _ h=>⟨rfl,h⟩⟩
theorem BK.trans {g:Nat} {a b c:World} (h:BK g a b) (k:BK g b c):BK g a c:=
 ⟨Nat.le_trans h.size k.size,fun x hx hf=>by
  obtain⟨h1,h2⟩:=h.keep x hx hf
  obtain⟨k1,k2⟩:=k.keep x (Nat.lt_of_lt_of_le hx h.size) h2
  exact⟨k1.trans h1,k2⟩⟩
theorem BK.ext {g:Nat} {W W':World} (hl:g< W.heap.size) (h:Ext W W'):BK g W W':=
 ⟨h.size,fun b hb hf=>⟨h.block b hb,hf.1,fun dv hd=>hf.2 dv (by rw[←hd];exact(World.cell?_of_block (h.block _ hl)).symm)⟩⟩
theorem BS.lt {w0 W:World} {g:Nat} {L:List QN} (h:BS w0 g W L):g< W.heap.size:=by obtain⟨_,_,h1,_⟩:=h.row;exact blk_lt h1
theorem BS.step {w0 W W':World} {g:Nat} {L:List QN} (h:BS w0 g W L) (hE:Ext W W'):BS w0 g W' L:=by
 obtain⟨rv,dv,h1,h2,h3⟩:=h.row
 exact⟨h.ext.trans hE,h.base,⟨rv,dv,(hE.block _ (blk_lt h1)).trans h1,rows_ext h2 hE,h3⟩,h.fl⟩
theorem BS.fresh {w0 W:World} {g:Nat} {L:List QN} (h:BS w0 g W L) {o:Obj}:Fb g (W.alloc o) W.heap.size:=by
 obtain⟨rv,dv,h1,h2,h3⟩:=h.row
 have hl:=blk_lt h1
 refine⟨by omega,fun d hd=> ?_⟩
 have e:(W.alloc o).heap[g]? =W.heap[g]? :=Below.block ((Ext.refl W).alloc o) g hl
 rw[World.cell?_of_block e,blk_cell h1 (k:=1) rfl]at hd
 obtain rfl:=Option.some.inj hd
 intro e2
 have:=(h2.lt _ e2.symm).2
 omega
theorem BS.form {w0 W:World} {g:Nat} {L:List QN} (h:BS w0 g W L) (h0:0< L.length):∃rv rb rc,W.heap[g]? =some (.cells #[rv,.slice (some ⟨rb,0,none⟩) L.length rc] 119)∧W.ownsRow w0.heap.size 81 6 (.slice (some ⟨rb,0,none⟩) L.length rc) L.length (L.flatMap qnV)∧rb≠g∧rb< W.heap.size:=by
 obtain⟨rv,dv,h1,h2,h3⟩:=h.row
 have h2':=h2
 obtain⟨e1,e2 | ⟨rb,rc,cur,rfl,e3,e4,e5⟩⟩:=h2'
 ·
  omega
 ·
  exact⟨rv,rb,rc,h1,h2,fun e=>h3 (by rw[e];rfl),blk_lt e4⟩
theorem qn_at (L:List QN) (i:Nat) (h:i< L.length):∀k (u:Value),(qnV L[i])[k]? =some u→(L.flatMap qnV)[i*6+k]? =some u:=by
 induction L generalizing i with
 | nil=>exact absurd h (Nat.not_lt_zero _)
 | cons a L ih=>
  intro k u hk
  rw[List.flatMap_cons]
  cases i with
  | zero=>
   rw[Nat.zero_mul,Nat.zero_add]
   have:k< (qnV a).length:=by
    rcases Nat.lt_or_ge k (qnV a).length with h1 | h1
    ·
     exact h1
    ·
     rw[List.getElem_cons_zero,List.getElem?_eq_none h1]at hk;cases hk
   rw[List.getElem?_append_left this];exact hk
  | succ i=>
   rw[List.getElem?_append_right (by show 6≤_;omega)]
   have e:(i+1)*6+k - (qnV a).length=i*6+k:=by show(i+1)*6+k - 6=_;omega
   rw[e]
   exact ih i kJ k u (by simpa using hk)
theorem qn_set (L:List QN) (i:Nat) (h:i< L.length) (f:Int):(L.flatMap qnV).set (i*6+4) (.int .i64 f)=(L.set i {L[i]with fin:=f}).flatMap qnV:=by
 induction L generalizing i with
 | nil=>exact absurd h (Nat.not_lt_zero _)
 | cons a L ih=>
  cases i with
  | zero=>rfl
  | succ i=>
   have hi:i< L.length:=by simpa using h
   show(qnV a++L.flatMap qnV).set ((i+1)*6+4) _=qnV a++(L.set i {L[i]with fin:=f}).flatMap qnV
   rw[←ih i hi,List.set_append_right _ _ (by show 6≤_;omega)]
   congr 2
   show(i+1)*6+4 - 6=_;omega
theorem app_set {α:Type} (L M:List α) (i:Nat) (x:α) (h:L.length≤i):(L++M).set i x=L++M.set (i - L.length) x:=List.set_append_right _ _ h
theorem s1Q:∀W,(sizeOf 72).run Tryz.prog W= .ok 1 W:=Tryz.sizeOf72
theorem BS.put {w0 W W1 W2:World} {g:Nat} {L:List QN} {rv dv v2:Value} {q:QN} (h:BS w0 g W L) (hE:Ext W W1) (hb:W.heap[g]? =some (.cells #[rv,dv] 119)) (hown:W.ownsRow w0.heap.size 81 6 dv L.length (L.flatMap qnV)) (hne:some g≠dv.ownBlock)
  (ho2:W2.ownsRow w0.heap.size 81 6 v2 (L.length+1) (L.flatMap qnV++qnV q)) (hg:W1.grownBy W2 dv.ownBlock) (hat:v2.ownBlock=dv.ownBlock∨v2.ownBlock=some W1.heap.size) (hq:qF q):
  BS w0 g (W2.setCell ⟨g,1,none⟩ v2) (L++ [q])∧BK g W (W2.setCell ⟨g,1,none⟩ v2)∧(W2.setCell ⟨g,1,none⟩ v2).cell? ⟨g,1,none⟩=some v2:=by
 have hl:=blk_lt hb
 have hb1:W1.heap[g]? =some (.cells #[rv,dv] 119):=(hE.block _ hl).trans hb
 have hl1:=blk_lt hb1
 have hb2:W2.heap[g]? =some (.cells #[rv,dv] 119):=(hg.block g hl1 hne).trans hb1
 have hb3:=heap_setCell_same' W2 g 1 _ _ v2 hb2
 simp only[List.setIfInBounds_toArray,List.set_cons_zero,List.set_cons_succ]at hb3
 have hne2:some g≠v2.ownBlock:=by
  rcases hat with e | e
  ·
   rw[e];exact hne
  ·
   rw[e];intro e2;have:=Option.some.inj e2;omega
 have hX:Ext w0 W2:=Below.grown (h.ext.trans hE) hg (Below.size (h.ext.trans hE)) fun k hk=>((rows_ext hown hE).lt k hk).1
 have hc:(W2.setCell ⟨g,1,none⟩ v2).cell? ⟨g,1,none⟩=some v2:=blk_cell hb3 (k:=1) rfl
 refine⟨⟨hX.set (p:=⟨g,1,none⟩) h.base _,h.base,⟨rv,v2,hb3,?_,hne2⟩,?_⟩,⟨?_,fun b hbl hf=>⟨?_,hf.1,fun d hd=> ?_⟩⟩,hc⟩
 ·
  rw[List.length_append,List.flatMap_append,List.flatMap_cons,List.flatMap_nil,List.append_nil]
  exact rows_set ho2 hne2 _
 ·
  intro x hx
  rcases List.mem_append.1 hx with hx | hx
  ·
   exact h.fl x hx
  ·
   rw[List.mem_singleton.1 hx];exact hq
 ·
  have:=hE.size;have:=hg.size;simp;omega
 ·
  rw[Below.heap_setCell _ _ _ _ hf.1,hg.block b (Nat.lt_of_lt_of_le hbl hE.size) (hf.2 dv (blk_cell hb (k:=1) rfl))]
  exact hE.block b hbl
 ·
  rw[hc]at hd
  obtain rfl:=Option.some.inj hd
  rcases hat with e | e
  ·
   rw[e];exact hf.2 dv (blk_cell hb (k:=1) rfl)
  ·
   rw[e];intro e2;have:=Option.some.inj e2;have:=hE.size;omega
theorem put_any (w0 W:World) (g:Nat) (L:List QN) (q:QN) (h:BS w0 g W L) (hq:qF q) (hL:L.length≤100000000):
  Calls Tryz.prog 125 #[.pointer (some ⟨g,0,none⟩),.agg #[.int .i64 q.kind,.string (bs q.name),.string (bs q.text),.int .i64 q.par,.int .i64 q.fin,.string (bs q.path)]] W fun e w'=>e= .returned (.int .i64 L.length)∧BS w0 g w' (L++ [{q with fin:=(L.length:Int)+1}])∧BK g W w':=by
 obtain⟨rv,dv,hb,hown,hne⟩:=h.row
 obtain⟨da,dc,rfl⟩:=own_slice hown
 have hlg:=blk_lt hb
 obtain⟨i0,ii,iz0,iz1,iz2⟩:=info_parts infoQN
 have E0:Ext W (W.alloc (.cells #[.int .i64 q.kind,.string (bs q.name),.string (bs q.text),.int .i64 q.par,.int .i64 q.fin,.string (bs q.path)] 81)):=(Ext.refl W).alloc _
 have hb0:(W.alloc (.cells #[.int .i64 q.kind,.string (bs q.name),.string (bs q.text),.int .i64 q.par,.int .i64 q.fin,.string (bs q.path)] 81)).heap[W.heap.size]? =some (.cells #[.int .i64 q.kind,.string (bs q.name),.string (bs q.text),.int .i64 q.par,.int .i64 q.fin,.string (bs q.path)] 81):=Array.getElem?_push_size
 have c1:(W.alloc (.cells #[.int .i64 q.kind,.string (bs q.name),.string (bs q.text),.int .i64 q.par,.int .i64 q.fin,.string (bs q.path)] 81)).cell? ⟨g,1,none⟩=some (.slice da L.length dc):=blk_cell ((E0.block _ hlg).trans hb) (k:=1) rfl
 have HW0:=Lh (And.intro h (And.intro hb (And.intro hown (And.intro hlg (And.intro hne (And.intro E0 hb0))))))
 have hLI:(L.length:Int)≤100000000:=by omega
 have HQ:=Lh hq
 clear h hb hown hne hlg hq E0 hb0
 go_enter Tryz.func125,Tryz.ntmps125
 go_wp2_with fail
 obtain⟨h,hb,hown,hlg,hne,E0,hb0⟩:=HW0.out
 obtain⟨wz,hwz⟩:∃wz,W.alloc (.cells #[.int .i64 q.kind,.string (bs q.name),.string (bs q.text),.int .i64 q.par,.int .i64 ((L.length:Int)+1),.string (bs q.path)] 81)=wz:=⟨_,rfl⟩
 rw[hwz]
 have E1:Ext W wz:=by rw[←hwz];exact(Ext.refl W).alloc _
 have hb1:wz.heap[W.heap.size]? =some (.cells #[.int .i64 q.kind,.string (bs q.name),.string (bs q.text),.int .i64 q.par,.int .i64 ((L.length:Int)+1),.string (bs q.path)] 81):=by rw[←hwz];exact Array.getElem?_push_size
 have hn1:some g≠(Value.slice da L.length dc).ownBlock:=hne
 have hne1:some W.heap.size≠(Value.slice da L.length dc).ownBlock:=fun e=>by have:=(hown.lt _ e.symm).2;omega
 have c1':wz.cell? ⟨g,1,none⟩=some (.slice da L.length dc):=blk_cell ((E1.block _ hlg).trans hb) (k:=1) rfl
 have hl1:=Nat.lt_of_lt_of_le hlg E1.size
 have hle:=blk_lt hb1
 obtain⟨eb,heb⟩:∃n,W.heap.size=n:=⟨_,rfl⟩
 rw[heb]at hb1 hne1 hle
 rw[heb]
 have k0:=blk_cell hb1 (k:=0) rfl;have k1:=blk_cell hb1 (k:=1) rfl;have k2:=blk_cell hb1 (k:=2) rfl;have k3:=blk_cell hb1 (k:=3) rfl;have k4:=blk_cell hb1 (k:=4) rfl;have k5:=blk_cell hb1 (k:=5) rfl
 have HW:=Lh (And.intro h (And.intro hb (And.intro hown (And.intro E1 hlg))))
 clear HW0 c1 h hb hown hne E1 hb1 hlg E0 hb0 hwz heb
 have c1:=c1'
 clear c1'
 refine rg_cut (S:=Sr (.slice da L.length dc) wz) 8 kB kB kB kB (Sr.begin _ _) ?_
 have hSp:Sr (.slice da L.length dc) wz (World.drew wz):=(Sr.begin _ _)
 refine gT 0 12 (.pointer (some ⟨g,0,none⟩)) hSp ?_
 simp only[Act.put,sA,sZ,sS]
 refine gT 1 13 (.pointer (some ⟨g,0,none⟩)) hSp ?_
 simp only[Act.put,sA,sZ,sS]
 refine gT 2 14 (.pointer (some ⟨g,0,none⟩)) hSp ?_
 simp only[Act.put,sA,sZ,sS]
 refine gT 3 15 (.pointer (some ⟨g,1,none⟩)) hSp ?_
 simp only[Act.put,sA,sZ,sS]
 refine gT 4 16 (.slice da L.length dc) hSp ?_ (hv:=fun w' hs=>by(have h0:=hs.cell ⟨hl1,hn1⟩ c1;go_simp))
 simp only[Act.put,sA,sZ,sS]
 refine gT 5 17 (.agg #[.int .i64 q.kind,.string (bs q.name),.string (bs q.text),.int .i64 q.par,.int .i64 ((L.length:Int)+1),.string (bs q.path)]) hSp ?_ (hv:=fun w' hs=>by(have h0:=hs.cell ⟨hle,hne1⟩ k0;have h1:=hs.cell ⟨hle,hne1⟩ k1;have h2:=hs.cell ⟨hle,hne1⟩ k2;have h3:=hs.cell ⟨hle,hne1⟩ k3;have h4:=hs.cell ⟨hle,hne1⟩ k4;have h5:=hs.cell ⟨hle,hne1⟩ k5;go_simp))
 simp only[Act.put,sA,sZ,sS]
 refine rg_one 6 kB ?_
 refine tk_new 6 (some 18) (.cells #[.int .i64 q.kind,.string (bs q.name),.string (bs q.text),.int .i64 q.par,.int .i64 ((L.length:Int)+1),.string (bs q.path)] 81) (fun n=> .slice (some ⟨n,0,none⟩) 1 1) rfl rfl (by rfl) kF ?_
 intro gb xb egb hEx hzxb hC
 have hSb:Sr (.slice da L.length dc) wz xb:=hSp.ext hEx
 refine⟨hSb,?_⟩
 simp only[Act.put,sA,sZ,sS]
 refine rg_one 7 kB ?_
 have hEb:Ext W xb:=HW.out.2.2.2.1.trans (((Ext.refl wz).drew).trans hEx)
 refine tk_app 7 (some 19) rfl rfl (by rfl) (.tmp 16) (.tmp 18) 72 rfl w0.heap.size 81 i0 (.agg #[.int .i64 0,.string ⟨#[]⟩,.string ⟨#[]⟩,.int .i64 0,.int .i64 0,.string ⟨#[]⟩]) 6 72 Tryz.underlying72 ii iz0 iz1 iz2 rfl kD (.slice da L.length dc) L.length (L.flatMap qnV) rfl (rows_ext HW.out.2.2.1 hEb) ⟨gb,0,none⟩ 1 1 (qnV {q with fin:=(L.length:Int)+1}) rfl rfl (fun j u hj=>by rw[add_offs',Nat.zero_add];exact blk_cells (xs:=qnV {q with fin:=(L.length:Int)+1}) hC j hj) (one_qn _) kC kA (by have:=HW.out.1.ext.size;have:=hEb.size;omega) ?_
 intro v2 w7 hO7 hg7 hat7
 refine⟨hSb.grown hg7,?_⟩
 simp only[Act.put,sA,sZ,sS]
 obtain⟨va,vc,rfl⟩:=own_slice hO7
 have hb7:=(hg7.block g (Nat.lt_of_lt_of_le HW.out.2.2.2.2 hEb.size) hn1).trans ((hEb.block g HW.out.2.2.2.2).trans HW.out.2.1)
 refine rg_done kB ?_
 refine rg_go 3 #[true,true,true,true,true,true,true,true,false,false,false] kB kB fun m=> ?_
 refine gT 8 20 (.pointer (some ⟨g,0,none⟩)) trivial ?_
 simp only[Act.put,sA,sZ,sS]
 refine gT 9 21 (.pointer (some ⟨g,1,none⟩)) trivial ?_
 simp only[Act.put,sA,sZ,sS]
 refine rg_write 10 none (w7.setCell ⟨g,1,none⟩ (.slice va (L.length+1) vc)) rfl rfl kB (by rfl) (exec_store rfl (store_slice _ s1Q (blk_cell hb7 (k:=1) rfl) (blk_free hb7) _ _ _)) trivial ?_
 simp only[Act.put,sA,sZ,sS]
 refine rg_done kB ?_
 have hP:=BS.put (q:={q with fin:=(L.length:Int)+1}) HW.out.1 hEb HW.out.2.1 HW.out.2.2.1 hn1 hO7 hg7 hat7 HQ.out
 obtain⟨wF,hwF⟩:∃wF,w7.setCell ⟨g,1,none⟩ (.slice va (L.length+1) vc)=wF:=⟨_,rfl⟩
 rw[hwF]at hP
 rw[hwF]
 have cF:=hP.2.2
 have HP:=Lh (And.intro hP.1 hP.2.1)
 clear hP hwF HW hb7 hC k0 k1 k2 k3 k4 k5 c1 hzxb
 have hlen:((L.length+1:Nat):Int) - 1=(L.length:Int):=by omega
 go_wp2_with fail
 go_ret
 exact⟨by rfl,HP.out.1,HP.out.2⟩
end Go.Proofs.YtngmgjodcnknoaaGreatDoor
