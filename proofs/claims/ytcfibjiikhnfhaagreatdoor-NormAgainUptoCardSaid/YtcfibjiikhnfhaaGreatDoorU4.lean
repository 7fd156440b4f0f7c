/-
 Laws drawn from elder texts. Helper lemmas;no statement of the seat is proved here.
-/
import Derived.Test.YtcfibjiikhnfhaaGreatDoorU3
namespace Go.Proofs.YtcfibjiikhnfhaaGreatDoor
open Go.RowKit
set_option maxHeartbeats 32000000
set_option maxRecDepth 100000
set_option linter.unusedVariables false
set_option linter.unusedSimpArgs false
def QCut (P:Program) (ops:Array Oper) (k:Nat) (Q:Exit→Act→World→Prop):Exit→Act→World→Prop
 | .normal,a,w=>∀fuel,ops.size - k≤fuel→wpAny P .any ops Q fuel (cutL ops.size k) a w
 | e,a,w=>Q e a w
section
variable {P:Program} {ops ops1:Array Oper} {Q:Exit→Act→World→Prop}
def Shut (ops:Array Oper) (listed:Array Bool):Prop:=∀i:Nat,listed.getD i false=true→∀o,ops[i]? =some o→∀e∈o.after,Region.binds .any e=true→listed.getD e.on false=true
theorem Shut.waits {listed:Array Bool} (h:Shut ops listed):∀(n i j:Nat),(∀o,ops[i]? =some o→∀e∈o.after,Region.binds .any e=true→listed.getD e.on false=true)→waits ops n i j=true→listed.getD j false=true
 | 0,i,j,_,hw=>by cases hw
 | n+1,i,j,hi,hw=>by
  unfold Go.Proofs.YtcfibjiikhnfhaaGreatDoor.waits at hw
  cases ho:ops[i]? with
  | none=>rw[ho]at hw;cases hw
  | some o=>
   rw[ho]at hw
   simp only[Option.map_some,Option.getD_some,Array.any_eq_true',Bool.and_eq_true,Bool.or_eq_true,beq_iff_eq]at hw
   obtain⟨e,he,hb,h2⟩:=hw
   have h1:=hi o ho e he hb
   rcases h2 with h2 | h2
   ·
    rw[←h2];exact h1
   ·
    exact Shut.waits h n e.on j (h e.on h1) h2
theorem upon_qcut (k:Nat) (o:Oper) (a:Act) (K:Act→World→Prop) (r:Result Next) (h:o.upon P a K (QCut P ops k Q) r):o.upon P a K Q r:=by
 cases r with
 | ok n w'=>
  cases n
  case enter f args=>
   refine Calls.mono h fun e w'' he=> ?_
   cases e<;> exact he
  all_goals exact h
 | halt x w'=>cases x<;> exact h
theorem getD_false {listed:Array Bool} {j:Nat} (hj:j< listed.size) (b:Bool):listed.getD j b=listed.getD j false:=by simp[Array.getD,hj]
theorem wpAny_cut (k:Nat) (hk:k≤ops.size) (h1:∀i:Nat,ops1[i]? =if i< k then ops[i]? else none)
  (hord:∀(i:Nat) (o:Oper),i< k→ops[i]? =some o→(∀e∈o.after,Region.binds .any e=true→e.on< i)∧∀j b,o.guard=some (j,b)→j< k)
  (hpost:∀i:Nat,i< ops.size→k≤i→∀j,j< k→waits ops ops.size i j=true):
  ∀(fuel1:Nat) (listed:Array Bool) (a:Act) (w:World),listed.size=ops.size→Shut ops listed→(∀j,k≤j→j< ops.size→listed.getD j false=false)→
   wpAny P .any ops1 (QCut P ops k Q) fuel1 listed a w→∀fuel,fuel1+(ops.size - k)≤fuel→wpAny P .any ops Q fuel listed a w:=by
 have hnone:∀(listed:Array Bool) (a:Act) (w:World),listed.size=ops.size→(∀j,k≤j→j< ops.size→listed.getD j false=false)→Region.ready .any ops1 listed= []→QCut P ops k Q .normal a w→∀fuel,ops.size - k≤fuel→wpAny P .any ops Q fuel listed a w:=by
  intro listed a w hls hlo hr hq fuel hf
  have hall:∀j,j< k→listed.getD j false=true:=by
   intro j
   induction j using Nat.strongRecOn with
   | ind j ih=>
    intro hj
    cases hl:listed.getD j false with
    | true=>rfl
    | false=>
     exfalso
     have hjo:j< ops.size:=by omega
     have ho:ops[j]? =some ops[j]:=Array.getElem?_eq_getElem hjo
     have hm:j∈Region.ready .any ops1 listed:=mem_ready.2 ⟨by rw[getD_false (by omega)];exact hl,ops[j],by rw[h1,if_pos hj,ho],fun e he hb=>ih e.on ((hord j _ hj ho).1 e he hb) (by have:=(hord j _ hj ho).1 e he hb;omega)⟩
     rw[hr]at hm;cases hm
  have he:listed=cutL ops.size k:=by
   apply Array.ext
   ·
    simp[cutL];omega
   ·
    intro i hi1 hi2
    have hg:listed.getD i false=listed[i]:=by simp[Array.getD,hi1]
    by_cases hik:i< k
    ·
     rw[←hg,hall i hik];simp[cutL,List.getElem_append,hik]
    ·
     rw[←hg,hlo i (by omega) (by omega)];simp[cutL,List.getElem_append,hik]
  rw[he]
  exact hq fuel hf
 have hsub:∀(listed:Array Bool) (i:Nat),i< k→(i∈Region.ready .any ops listed↔i∈Region.ready .any ops1 listed):=fun listed i hi=>by
  rw[mem_ready,mem_ready,h1,if_pos hi]
 intro fuel1
 induction fuel1 with
 | zero=>
  intro listed a w hls hsh hlo h fuel hf
  exact hnone listed a w hls hlo h.1 h.2 fuel (by omega)
 | succ fuel1 ih=>
  intro listed a w hls hsh hlo h fuel hf
  by_cases hr:Region.ready .any ops1 listed= []
  ·
   exact hnone listed a w hls hlo hr (h.1 hr) fuel (by omega)
  ·
   obtain⟨f,rfl⟩:∃f,fuel=f+1:=⟨fuel - 1,by omega⟩
   refine⟨fun he=> ?_,fun i hi=> ?_⟩
   ·
    obtain⟨j,hj⟩:=List.exists_mem_of_ne_nil _ hr
    have hjk:j< k:=by
     obtain⟨_,o,ho,_⟩:=mem_ready.1 hj
     rw[h1]at ho
     by_cases c:j< k
     ·
      exact c
     ·
      rw[if_neg c]at ho;cases ho
    have:=(hsub listed j hjk).2 hj
    rw[he]at this;cases this
   ·
    obtain⟨hu,o,ho,hal⟩:=mem_ready.1 hi
    have his:i< ops.size:=(Array.getElem?_eq_some_iff.1 ho).1
    have hik:i< k:=by
     by_cases c:i< k
     ·
      exact c
     ·
      exfalso
      obtain⟨j,hj⟩:=List.exists_mem_of_ne_nil _ hr
      obtain⟨hju,o',ho',_⟩:=mem_ready.1 hj
      rw[h1]at ho'
      by_cases cj:j< k
      ·
       have hw:=hsh.waits ops.size i j (fun o2 ho2 e he hb=>by rw[ho]at ho2;cases ho2;exact hal e he hb) (hpost i his (by omega) j cj)
       rw[getD_false (by omega)]at hju
       rw[hju]at hw;cases hw
      ·
       rw[if_neg cj]at ho';cases ho'
    have h2:=h.2 i ((hsub listed i hik).1 hi)
    have h3:=wpOp_mono (fun a' w' h'=>ih (listed.setIfInBounds i true) a' w' (by simpa using hls) (fun i' hi' o2 ho2 e he hb=>by
     have hlt:∀m:Nat,listed.getD m false=true→(listed.setIfInBounds i true).getD m false=true:=fun m hm=>by
      by_cases hmi:i=m
      ·
       subst hmi;simp[Array.getD,hls,his]
      ·
       rw[getD_set_ne false hmi];exact hm
     by_cases hii:i=i'
     ·
      subst hii
      rw[ho]at ho2;cases ho2
      exact hlt _ (hal e he hb)
     ·
      rw[getD_set_ne false hii]at hi'
      exact hlt _ (hsh i' hi' o2 ho2 e he hb)) (fun j hj1 hj2=>by rw[getD_set_ne false (by omega)];exact hlo j hj1 hj2) h' f (by omega)) h2
    unfold wpOp at h3⊢
    rw[h1,if_pos hik]at h3
    simp only[ho]at h3⊢
    have hy:Region.wanted o (yielded ops1 a.tmps)=Region.wanted o (yielded ops a.tmps):=by
     unfold Region.wanted
     cases hg:o.guard with
     | none=>rfl
     | some g=>
      obtain⟨j,b⟩:=g
      have hj:=(hord i o hik ho).2 j b hg
      simp only
      have:yielded ops1 a.tmps j=yielded ops a.tmps j:=by unfold yielded;rw[h1,if_pos hj]
      rw[this]
    rw[hy]at h3
    split at h3
    ·
     rename_i hw
     rw[if_pos hw]
     rcases h3 with h3 | ⟨h3,h4⟩
     ·
      exact Or.inl (upon_qcut k o a _ _ h3)
     ·
      exact Or.inr ⟨h3,h4⟩
    ·
     rename_i hw
     rw[if_neg hw]
     exact h3
theorem rg_cut {S:World→Prop} {id:Nat} {a:Act} {w:World} (k:Nat) (hm:P.follows .mixedOrders=true) (hk:decide (k≤ops.size)=true)
  (hord:((List.range k).all fun i=>((ops[i]?).map fun o=>(o.after.all fun e=> !Region.binds .any e || decide (e.on< i)) && (match o.guard with | none=>true | some (j,_)=>decide (j< k))).getD true)=true)
  (hpost:((List.range ops.size).all fun i=>decide (i< k) || (List.range k).all fun j=>waits ops ops.size i j)=true)
  (hS:S w.drew) (h:wpAnyH P .any (ops.toList.take k).toArray (QCut P ops k Q) S k (Array.replicate ops.size false) a w.drew):(Code.region id ops true).wp P Q a w:=by
 refine wp_region_any hm (wpAny_cut (ops1:=(ops.toList.take k).toArray) k (of_decide_eq_true hk) (fun i=> ?_) (fun i o hi ho=> ?_) (fun i hi hki j hj=> ?_) k _ a _ (by simp) (fun i hi=>by simp[Array.getD]at hi) (fun j _ hj=>by simp[Array.getD]) (wpAny_of_held _ _ _ _ h) _ (by have:=of_decide_eq_true hk;omega))
 ·
  simp[List.getElem?_take]
 ·
  have h:=(List.all_eq_true.1 hord) i (List.mem_range.2 hi)
  rw[ho]at h
  simp only[Option.map_some,Option.getD_some,Bool.and_eq_true,Array.all_eq_true',Bool.or_eq_true,Bool.not_eq_true',decide_eq_true_eq]at h
  refine⟨fun e he hb=> ?_,fun j b hg=> ?_⟩
  ·
   rcases h.1 e he with h2 | h2
   ·
    rw[hb]at h2;cases h2
   ·
    exact h2
  ·
   have h2:=h.2
   rw[hg]at h2
   exact of_decide_eq_true h2
 ·
  have h:=(List.all_eq_true.1 hpost) i (List.mem_range.2 hi)
  rw[Bool.or_eq_true]at h
  rcases h with h | h
  ·
   have:=of_decide_eq_true h;omega
  ·
   exact(List.all_eq_true.1 h) j (List.mem_range.2 hj)
theorem rg_go {k:Nat} {a:Act} {w:World} (r:Nat) (L:Array Bool) (hL:cutL ops.size k=L) (hr:ops.size - k=r) (h:∀m,wpAnyH P .any ops Q (fun _=>True) (m+r) L a w):QCut P ops k Q .normal a w:=fun fuel hf=>by
 obtain⟨m,rfl⟩:∃m,fuel=m+r:=⟨fuel - r,by omega⟩
 rw[hL]
 exact wpAny_of_held _ _ _ _ (h m)
end
theorem cloneat_own (x:List Attr) (p:Nat→Prop) (v:Value) (w:World) (hx:x.length≤16777216) (h:Rep w p v (attrsD x)):
  Calls Tryz.prog 85 #[v] w fun e w'=>(∃u,e= .returned u∧Own w' (fun b=>p b∧b< w.heap.size) w.heap.size 114 2 u x.length (x.flatMap attrC))∧Ext w w':=by
 obtain⟨i0,hi,hz0,hz1,hz2⟩:=info_parts infoAttr
 obtain⟨a,c,rfl,hc1,hc2⟩:=h.count z_attr (by omega)
 have knil:=fun(a:Option Addr) (l c:Nat) (w:World)=>run_eql_slice_nil (P:=Tryz.prog) w 23 114 a l c Tryz.underlying23
 cases a with
 | none=>
  obtain⟨h0,hc0,_⟩:=rep_none h
  obtain rfl:x= []:=List.eq_nil_of_length_eq_zero h0
  subst hc0
  clear h0
  simp only[List.length_nil]at*
  go_enter Tryz.func85,Tryz.ntmps85
  go_wp2_with fail
  go_ret
  exact⟨⟨_,rfl,Own.nil _ _ _ _ _⟩,Ext.refl _⟩
 | some ad=>
  obtain⟨us,hus,hul,hcells⟩:=rep_some h
  have h1u:=hus.one (flat_one one_attr x)
  have hown:(w.alloc (.cells #[] 114)).ownsRow w.heap.size 114 2 (.slice (some ⟨w.heap.size,0,none⟩) 0 0) 0 []:=own_empty' (Nat.le_refl _) Array.getElem?_push_size
  have hcl:∀j u,us[j]? =some u→(w.alloc (.cells #[] 114)).cell? (ad.add j)=some u:=fun j u hj=>by
   have h1:=hcells j u hj
   exact(World.cell?_of_block (Below.heap_alloc _ _ _ (World.block_lt_of_cell? w _ h1))).trans h1
  have HU:=Lh (And.intro hus h1u)
  clear hus h1u h hcells
  go_enter Tryz.func85,Tryz.ntmps85
  go_wp2_with (at_builtin;refine wpList_append_own_at _ rfl (.tmp 5) (.tmp 6) _ rfl w.heap.size 114 i0 (.agg #[.string ⟨#[]⟩,.string ⟨#[]⟩]) 2 32 Tryz.underlying23 hi hz0 hz1 hz2 rfl (by decide) (.slice (some ⟨w.heap.size,0,none⟩) 0 0) 0 [] rfl hown ad x.length c us rfl hul hcl HU.out.2 (by unfold maxLen;omega) (by omega) (by simp) ?_;intro v2 w3 hown3 hgrow3 _ hat3)
  have hX3:Ext w w3:=Below.grown ((Ext.refl w).alloc (.cells #[] 114)) hgrow3 (by simp) fun k hk=>(hown.lt k hk).1
  have hO:Own w3 (fun b=>p b∧b< w.heap.size) w.heap.size 114 2 v2 x.length (x.flatMap attrC):=⟨us,by simpa using hown3,(HU.out.1.lt.ext hX3).ok fun b hb=>⟨hb,fun e=>by
   have:=(hown3.lt b e.symm).1
   have:=hb.2
   omega,Nat.lt_of_lt_of_le hb.2 hX3.size⟩⟩
  clear hown3 hgrow3 hat3
  go_wp2_with fail
  go_ret
  exact⟨⟨v2,rfl,hO⟩,hX3⟩
theorem aequal_q (p q:Nat→Prop) (x y:List Attr) (v u:Value) (w:World) (h:Rep w p v (attrsD x)) (k:Rep w q u (attrsD y)):
  Calls Tryz.prog 57 #[v,u] w fun e w'=>e= .returned (.bool (attrsS x y))∧Dr w w':=by
 obtain⟨a,c,rfl,hc1,hc2⟩:=h.count z_attr (by omega)
 obtain⟨b,d,rfl,hd1,hd2⟩:=k.count z_attr (by omega)
 obtain⟨R,hR⟩:∃R,attrsS x y=R:=⟨_,rfl⟩
 rw[hR]
 have HR:=Lh hR
 by_cases hl:x.length=y.length
 ·
  have hl1:((x.length:Int) !=(y.length:Int))=false:=by rw[hl];exact bne_self_eq_false _
  have HL:=Lh hl
  clear hR hl
  go_enter Tryz.func57,Tryz.ntmps57
  go_wp2_with fail
  go_loopw [5,13] (fun _ t wr=>∃i:Nat,t= .int .i64 i∧i≤x.length∧Dr w wr∧Hid (attrsS (x.drop i) (y.drop i)=R)) (fun _ t _=>downV x.length t)
  case atStart=>exact⟨0,rfl,Nat.zero_le _,Dr.refl _,HR⟩
  case round=>
   obtain⟨i,rfl,hi,hX,HI⟩:=hrel
   by_cases hlt:i< x.length
   ·
    have hlI:(i:Int)< (x.length:Int):=by omega
    have hi0:(0:Int)≤(i:Int):=by omega
    have hly:i< y.length:=by have:=HL.out;omega
    have hyI:(i:Int)< (y.length:Int):=by omega
    obtain⟨g1,o1,rfl,hb1,hp1,hc1,hd1⟩:=attr_at (h.ext hX.ext) i hlt
    obtain⟨g2,o2,rfl,hb2,hp2,hc2,hd2⟩:=attr_at (k.ext hX.ext) i hly
    have HS:Hid (attrsS (x.drop i) (y.drop i)=if x[i]=y[i]then attrsS (x.drop (i+1)) (y.drop (i+1))else false):=Lh (by rw[drop_one x i hlt,drop_one y i hly];rfl)
    obtain⟨s,hs⟩:∃s,x[i]=s:=⟨_,rfl⟩
    obtain⟨t,ht⟩:∃t,y[i]=t:=⟨_,rfl⟩
    rw[hs]at hc1 hd1 HS
    rw[ht]at hc2 hd2 HS
    have HX:=Lh hX
    clear hs ht hX
    by_cases he:s=t
    ·
     subst he
     have HN:Hid (attrsS (x.drop (i+1)) (y.drop (i+1))=R):=Lh (by have:=HS.out;rw[if_pos rfl]at this;rw[←this];exact HI.out)
     have hq:=attr_eqE s
     have hg:=grd_attr
     clear HS HI
     go_wp2_with fail
     go_quiet (fail)
     go_wp2_with fail
     go_roundw
     case rel=>exact⟨i+1,by go_num,by omega,HX.out.drewN _,HN⟩
     case measure=>simp only[downV];omega
    ·
     have HN:Hid (false=R):=Lh (by have:=HS.out;rw[if_neg he]at this;rw[←this];exact HI.out)
     have hq:=attr_eqN s t he
     have hg:=grd_attr
     clear HS HI he
     go_wp2_with fail
     go_quiet (fail)
     go_wp2_with fail
     go_ret
     exact⟨ret_bool HN.out,HX.out.drewN _⟩
   ·
    have hlI:¬(i:Int)< (x.length:Int):=by omega
    have HN:Hid (true=R):=Lh (by
     have:=HI.out
     rw[List.drop_of_length_le (by omega),List.drop_of_length_le (by have:=HL.out;omega)]at this
     exact this)
    clear HI
    go_wp2_with fail
    go_ret
    exact⟨ret_bool HN.out,hX⟩
 ·
  have hl1:((x.length:Int) !=(y.length:Int))=true:=by rw[bne_iff_ne];omega
  have HN:Hid (false=R):=Lh (by rw[←hR,attrsS_ne x y hl])
  clear hR hl HR
  go_enter Tryz.func57,Tryz.ntmps57
  go_wp2_with fail
  go_ret
  exact⟨ret_bool HN.out,Dr.refl _⟩
theorem aequal_any (p q:Nat→Prop) (x y:List Attr) (v u:Value) (w:World) (h:Rep w p v (attrsD x)) (k:Rep w q u (attrsD y)):
  Calls Tryz.prog 57 #[v,u] w fun e w'=>e= .returned (.bool (attrsS x y))∧Ext w w':=
 (aequal_q p q x y v u w h k).mono fun _ _ ⟨he,hd⟩=>⟨he,hd.ext⟩
def XSame (N:Nat):Prop:=∀(a b:Node) (p q:Nat→Prop) (va vk ua uk:Value) (w:World),nsz a≤N→Rep w p va (attrsD a.attrs)→Rep w p vk (nodesD a.kids)→Rep w q ua (attrsD b.attrs)→Rep w q uk (nodesD b.kids)→
  Calls Tryz.prog 23 #[.agg #[.int .i64 a.kind,.string (bs a.name),.string (bs a.text),va,vk],.agg #[.int .i64 b.kind,.string (bs b.name),.string (bs b.text),ua,uk]] w fun e w'=>e= .returned (.bool (sameN a b))∧Ext w w'
theorem Sx.free {w0 w':World} (h:Sx w0 w') {b o:Nat} {v:Bool} (hb:b< w0.heap.size) (hc:w0.frozen? ⟨b,o,none⟩=v):w'.frozen? ⟨b,o,none⟩=v:=Ext.free h hb hc
theorem attr_le:∀(l:List Attr) (i:Nat) (h:i< l.length),l[i].n.length+l[i].v.length+1≤cntA l
 | [],i,h=>absurd h (Nat.not_lt_zero _)
 | a::r,0,h=>by rw[cntA];simp only[List.getElem_cons_zero];omega
 | a::r,i+1,h=>by have:=attr_le r i (by simpa using h);rw[cntA];simp only[List.getElem_cons_succ];omega
theorem kid_le:∀(l:List Node) (i:Nat) (h:i< l.length),cntN l[i]≤cntL l
 | [],i,h=>absurd h (Nat.not_lt_zero _)
 | a::r,0,h=>by rw[cntL];simp only[List.getElem_cons_zero];omega
 | a::r,i+1,h=>by have:=kid_le r i (by simpa using h);rw[cntL];simp only[List.getElem_cons_succ];omega
theorem cntN_own (n:Node):n.name.length+n.text.length+cntA n.attrs+cntL n.kids+1=cntN n:=by cases n;rw[cntN];simp only[Node.name,Node.text,Node.attrs,Node.kids];omega
theorem Exc.trans {g:Nat} {a b c:World} (h:Exc g a b) (k:Exc g b c):Exc g a c:=⟨Nat.le_trans h.1 k.1,fun x h1 h2=>(k.2 x h1 (Nat.lt_of_lt_of_le h2 h.1)).trans (h.2 x h1 h2),k.3.1.trans h.3.1,k.3.2.1.trans h.3.2.1,k.3.2.2.trans h.3.2.2⟩
theorem by_at {w:World} {p:Nat→Prop} {a:Option Addr} {len cap:Nat} {L:Bytes} (h:Rep w p (.slice a len cap) (numsD .u8 (byI L))) (i:Nat) (hi:i< L.length):
  ∃b off,a=some ⟨b,off,none⟩∧b< w.heap.size∧w.cell? ⟨b,off+i,none⟩=some (.int .u8 (L[i].toNat:Int)):=by
 obtain⟨b,off,ha,hb,hp,hc⟩:=elem_at (f:=fun c=> [.v (.int .u8 c)]) (z_num .u8) h (by omega) i (by rw[byI_len];exact hi)
 obtain⟨u,hu,hr⟩:=hc 0 _ rfl
 rw[Nat.mul_one,Nat.add_zero]at hu
 refine⟨b,off,ha,hb,?_⟩
 rw[hu,hr.is]
 simp[byI]
theorem by_count {w:World} {p:Nat→Prop} {v:Value} {L:Bytes} (h:Rep w p v (numsD .u8 (byI L))):∃a cap,v= .slice a L.length cap∧L.length≤cap∧cap≤9223372036854775807:=by
 have:=h.count (f:=fun c=> [.v (.int .u8 c)]) (z_num .u8) (by omega)
 rw[byI_len]at this
 exact this
theorem by_drop {w:World} {p:Nat→Prop} {b off len cap:Nat} {L:Bytes} (h:Rep w p (.slice (some ⟨b,off,none⟩) len cap) (numsD .u8 (byI L))) (i:Nat) (hi:i≤L.length) (hl:len=L.length) (hc:cap≤9223372036854775807) (hc2:len≤cap):
  Rep w p (.slice (some ⟨b,off+i,none⟩) (len - i) (cap - i)) (numsD .u8 (byI (L.drop i))):=by
 have h1:=Rep.sub h i len (cap - i) (by omega) (Nat.le_refl _) (by omega) (by omega)
 rw[Nat.mul_one,Nat.mul_one]at h1
 have e:(List.drop i (List.flatMap (fun c=> [DV.v (.int .u8 c)]) (byI L))).take (len - i)=List.flatMap (fun c=> [DV.v (.int .u8 c)]) (byI (L.drop i)):=by
  rw[List.take_of_length_le]
  ·
   simp only[byI,List.map_drop,List.flatMap_singleton']
   rw[show∀l:List Int,l.flatMap (fun c=> [DV.v (.int .u8 c)])=l.map fun c=>DV.v (.int .u8 c) from fun l=>by induction l<;> simp_all,show∀l:List Int,l.flatMap (fun c=> [DV.v (.int .u8 c)])=l.map fun c=>DV.v (.int .u8 c) from fun l=>by induction l<;> simp_all,List.map_drop]
  ·
   rw[List.length_drop,flat_len (fun c=> [DV.v (.int .u8 c)]) 1 (z_num .u8),byI_len];omega
 rw[e]at h1
 exact h1
end Go.Proofs.YtcfibjiikhnfhaaGreatDoor
