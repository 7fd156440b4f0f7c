/-
 Laws drawn from elder texts. Helper lemmas;no statement of the seat is proved here.
-/
import Derived.Test.YtngmgjodcnknoaaGreatDoorU19
namespace Go.Proofs.YtngmgjodcnknoaaGreatDoor
open Go.RowKit
set_option maxHeartbeats 32000000
set_option maxRecDepth 100000
set_option linter.unusedVariables false
set_option linter.unusedSimpArgs false
theorem node_any (l:List Rule) (hok:RulesOk l):∀N:Nat,NodeOK l N:=by
 intro N
 induction N with
 | zero=>
  intro path s hs above p vl vp vk vh va w hne hh
  obtain⟨h,hm⟩:=List.exists_mem_of_ne_nil hs hne
  have:=(hh h hm).2.1
  have:=nsz_pos h.n
  omega
 | succ N ih=>
  intro path s hs above p vl vp vk vh va w hne hh hsz hhl hp0 hsn hvl hvp hvk hvh hva
  exact nodestep l hok N ih path s hs above p vl vp vk vh va w hne hh hsz hhl hp0 hsn hvl hvp hvk hvh hva
mutual
theorem nsz_cnt:∀n:Node,nsz n≤cntN n
 | .mk k nm tx la ks=>by rw[nsz,cntN];have:=nszL_cnt ks;omega
theorem nszL_cnt:∀l:List Node,nszL l≤cntL l
 | []=>Nat.zero_le _
 | n::r=>by rw[nszL,cntL];have:=nsz_cnt n;have:=nszL_cnt r;omega
end
theorem nszL_bound:∀ds:List Node,(∀d∈ds,cntN d≤1048576)→ds.length≤15→nszL ds≤16777216:=by
 have h:∀ds:List Node,(∀d∈ds,cntN d≤1048576)→nszL ds≤1048576*ds.length:=fun ds=>by
  induction ds with
  | nil=>intro _;simp[nszL]
  | cons d r ih=>
   intro h
   have h1:=h d List.mem_cons_self
   have h2:=ih fun d hd=>h d (List.mem_cons_of_mem _ hd)
   have h3:=nsz_cnt d
   rw[nszL,List.length_cons];omega
 intro ds h1 h2
 have:=h ds h1
 omega
theorem heldsOf_app:∀(a b:List Node) (i:Nat),heldsOf (a++b) i=heldsOf a i++heldsOf b (i+a.length)
 | [],b,i=>rfl
 | d::a,b,i=>by rw[List.cons_append,heldsOf,heldsOf,heldsOf_app a b (i+1),List.cons_append,List.length_cons];congr 3;omega
theorem heldsOf_len:∀(a:List Node) (i:Nat),(heldsOf a i).length=a.length
 | [],_=>rfl
 | d::a,i=>by rw[heldsOf,List.length_cons,List.length_cons,heldsOf_len a (i+1)]
theorem heldsOf_step (ds:List Node) (i:Nat) (h:i< ds.length):heldsOf (ds.take (i+1)) 0=heldsOf (ds.take i) 0++ [⟨(i:Int)+1,ds[i]⟩]:=by
 rw[List.take_add_one,List.getElem?_eq_getElem h,heldsOf_app]
 simp only[Option.toList_some,heldsOf,List.length_take,Nat.zero_add]
 congr 3
 rw[Nat.min_eq_left kA]
theorem hszL_held:∀(a:List Node) (i:Nat),hszL (heldsOf a i)=nszL a
 | [],_=>rfl
 | d::a,i=>by rw[heldsOf,hszL,nszL,hszL_held a (i+1)]
structure Z6 (W:World) (b:Nat):Prop where
 lt:b< W.heap.size
 c0:W.cell? ⟨b,0,none⟩=some (.int .i64 0)
 c1:W.cell? ⟨b,1,none⟩=some (.string ⟨#[]⟩)
 c2:W.cell? ⟨b,2,none⟩=some (.slice none 0 0)
 c3:W.cell? ⟨b,3,none⟩=some (.slice none 0 0)
 c4:W.cell? ⟨b,4,none⟩=some (.slice none 0 0)
 c5:W.cell? ⟨b,5,none⟩=some (.slice none 0 0)
 f0:W.frozen? ⟨b,0,none⟩=false
 f1:W.frozen? ⟨b,1,none⟩=false
 f2:W.frozen? ⟨b,2,none⟩=false
 f3:W.frozen? ⟨b,3,none⟩=false
 f4:W.frozen? ⟨b,4,none⟩=false
 f5:W.frozen? ⟨b,5,none⟩=false
theorem Z6.ext {W W':World} {b:Nat} (h:Z6 W b) (hB:Ext W W'):Z6 W' b:=
 ⟨Nat.lt_of_lt_of_le h.lt hB.size,hB.keep h.lt h.c0,hB.keep h.lt h.c1,hB.keep h.lt h.c2,hB.keep h.lt h.c3,hB.keep h.lt h.c4,hB.keep h.lt h.c5,hB.free h.lt h.f0,hB.free h.lt h.f1,hB.free h.lt h.f2,hB.free h.lt h.f3,hB.free h.lt h.f4,hB.free h.lt h.f5⟩
def sar (W:World) (b:Nat) (last:Int) (n:ANode) (xk xv xp xc:Value):World:=((((((W.setCell ⟨b,0,none⟩ (.int .i64 last)).setCell ⟨b,1,none⟩ (.string (bs n.name))).setCell ⟨b,2,none⟩ xk).setCell ⟨b,3,none⟩ xv).setCell ⟨b,4,none⟩ xp).setCell ⟨b,5,none⟩ xc)
theorem Ext.sar {a w:World} (h:Ext a w) {b:Nat} (hb:a.heap.size≤b) (last:Int) (n:ANode) (xk xv xp xc:Value):Ext a (sar w b last n xk xv xp xc):=
 (((((h.set (p:=⟨b,0,none⟩) hb _).set (p:=⟨b,1,none⟩) hb _).set (p:=⟨b,2,none⟩) hb _).set (p:=⟨b,3,none⟩) hb _).set (p:=⟨b,4,none⟩) hb _).set (p:=⟨b,5,none⟩) hb _
theorem sar_block (W:World) (b:Nat) (last:Int) (n:ANode) (xk xv xp xc:Value) {k:Nat} (h:k≠b):(sar W b last n xk xv xp xc).heap[k]? =W.heap[k]? :=by
 unfold sar
 rw[Below.heap_setCell _ _ _ _ kJ,Below.heap_setCell _ _ _ _ kJ,Below.heap_setCell _ _ _ _ kJ,Below.heap_setCell _ _ _ _ kJ,Below.heap_setCell _ _ _ _ kJ,Below.heap_setCell _ _ _ _ kJ]
theorem store_arch {W:World} {b:Nat} (h:Z6 W b) (last:Int) (n:ANode) (k v q c:Option Addr) (kl kc vl vc ql qc cl cc:Nat):
  (Instr.storeAt 34 (.pointer (some ⟨b,0,none⟩)) (.agg #[.int .i64 last,.string (bs n.name),.slice k kl kc,.slice v vl vc,.slice q ql qc,.slice c cl cc])).run Tryz.prog W= .ok () (sar W b last n (.slice k kl kc) (.slice v vl vc) (.slice q ql qc) (.slice c cl cc)):=by
 have c0:=h.c0;have c1:=h.c1;have c2:=h.c2;have c3:=h.c3;have c4:=h.c4;have c5:=h.c5
 have f0:=h.f0;have f1:=h.f1;have f2:=h.f2;have f3:=h.f3;have f4:=h.f4;have f5:=h.f5
 unfold sar
 go_simp
theorem load_arch {W:World} {b:Nat} (h:Z6 W b) (last:Int) (n:ANode) (xk xv xp xc:Value):
  (loadVar 34 ⟨b,0,none⟩).run Tryz.prog (sar W b last n xk xv xp xc)= .ok (.agg #[.int .i64 last,.string (bs n.name),xk,xv,xp,xc]) (sar W b last n xk xv xp xc):=by
 have hlt:=h.lt
 have c0:=h.c0;have c1:=h.c1;have c2:=h.c2;have c3:=h.c3;have c4:=h.c4;have c5:=h.c5
 have f0:=h.f0;have f1:=h.f1;have f2:=h.f2;have f3:=h.f3;have f4:=h.f4;have f5:=h.f5
 unfold sar
 go_simp
def RetR (q:Nat→Prop) (last:Int) (n:ANode) (e:Ending) (w:World):Prop:=
 ∃(k v pa c:Option Addr) (kc vc pc cc:Nat),e= .returned (.agg #[.int .i64 last,.string (bs n.name),.slice k n.key.length kc,.slice v n.vers.length vc,.slice pa n.parts.length pc,.slice c n.kids.length cc])∧Rep w q (.slice k n.key.length kc) (strsD n.key)∧Rep w q (.slice v n.vers.length vc) (spansD n.vers)∧Rep w q (.slice pa n.parts.length pc) (partsD n.parts)∧Rep w q (.slice c n.kids.length cc) (anodesD n.kids)
theorem build_any (l:List Rule) (nm:Bytes) (hok:RulesOk l) (hl:∃ks rs,l=⟨[nm],ks⟩::rs) (ds:List Node) (p:Nat→Prop) (vl vd:Value) (w:World) (hds:∀d∈ds,wfN l d [nm]∧cntN d≤1048576) (hd12:ds.length≤15)
  (hvl:Rep w p vl (rulesD l)) (hvd:Rep w p vd (nodesD ds)):
  Calls Tryz.prog 21 #[vl,vd] w fun e w'=>RetR (fun b=>p b∨w.heap.size≤b) ds.length (rootP l nm ds) e w'∧Ext w w':=by
 obtain⟨la,lc,rfl,hlc1,hlc2⟩:=hvl.count z_rule kA
 obtain⟨da,dc,rfl,hdc1,hdc2⟩:=hvd.count z_node kA
 obtain⟨k0,ki,kz0,kz1,kz2⟩:=info_parts infoHeld
 have hll:0< l.length:=by obtain⟨ks,rs,e⟩:=hl;rw[e];simp
 obtain⟨gl,ol,vp,vkk,rfl,lgl,_,r0,_,hrp,_⟩:=rule_at hvl 0 hll
 have hl0:l[0].path= [nm]:=by obtain⟨ks,rs,e⟩:=hl;simp[e]
 rw[Nat.zero_mul,Nat.add_zero]at r0
 rw[hl0]at hrp
 obtain⟨gp,pc,rfl,hpc1,hpc2⟩:=hrp.count z_str kA
 obtain⟨gpp,op,rfl,lgp,_,s0⟩:=str_at hrp 0 kI
 have hnm:=strs_len hrp 0 kI
 simp only[List.getElem_cons_zero]at s0 hnm
 rw[Nat.add_zero]at s0
 have hone:([nm]:List Bytes).length=1:=rfl
 rw[hone]at r0
 have hlI:(0:Int)< (l.length:Int):=by omega
 have hlne:l≠ []:=by intro e;rw[e]at hll;simp at hll
 have HDS:=Lh hds
 have HOK:=Lh hok
 have HRP:Hid (Rep w p (.slice (some ⟨gpp,op,none⟩) 1 pc) (strsD [nm])):=Lh hrp
 clear hds hok hl hl0 hrp hone
 by_cases hd0:ds.length=0
 ·
  have q0:((ds.length:Int)==0)=true:=by rw[hd0];rfl
  have hdn:ds= []:=List.eq_nil_of_length_eq_zero hd0
  subst hdn
  go_enter Tryz.func21,Tryz.ntmps21
  go_wp2_with fail
  (try simp only[Exit.inBlock,Exit.then])
  refine bodyPost_ret (res_one rfl _ _ _ (v:= .agg #[.int .i64 0,.string ⟨#[]⟩,.slice none 0 0,.slice none 0 0,.slice none 0 0,.slice none 0 0]) ⟨w.heap.size,0,none⟩ ?_ (by go_simp)) rfl ?_
  ·
   rfl
  exact⟨⟨none,none,none,none,0,0,0,0,rfl,.nil 1,.nil 2,.nil 3,.nil 5⟩,(Ext.refl w).alloc _⟩
 ·
  have q0:((ds.length:Int)==0)=false:=by rw[beq_eq_false_iff_ne];omega
  have hne:ds≠ []:=by intro e;rw[e]at hd0;exact hd0 rfl
  go_enter Tryz.func21,Tryz.ntmps21
  go_wp2_with fail
  obtain⟨w1,hw1⟩:∃w1,w.alloc (.cells #[.int .i64 0,.string ⟨#[]⟩,.slice none 0 0,.slice none 0 0,.slice none 0 0,.slice none 0 0] 34)=w1:=⟨_,rfl⟩
  have hE1:Ext w w1:=by rw[←hw1];exact(Ext.refl w).alloc _
  have hz6:Z6 w1 w.heap.size:=by
   rw[←hw1]
   exact⟨by simp,by simp[go_sem],by simp[go_sem],by simp[go_sem],by simp[go_sem],by simp[go_sem],by simp[go_sem],by simp[go_sem],by simp[go_sem],by simp[go_sem],by simp[go_sem],by simp[go_sem],by simp[go_sem]⟩
  have hz1:w1.heap.size=w.heap.size+1:=by rw[←hw1];simp
  rw[hw1]
  have HZ:=Lh (And.intro hz6 hE1)
  clear hw1 hz6 hE1 hd0
  go_loopw [5,6] (fun o t wr=>∃(i:Nat) (oa:Option Addr) (oc:Nat),t= .int .i64 i∧o= .slice oa i oc∧i≤ds.length∧Ext w1 wr∧Hid (Own wr (fun b=>p b∧b< w.heap.size) w1.heap.size 98 6 (.slice oa i oc) i ((heldsOf (ds.take i) 0).flatMap heldC))) (fun _ t _=>downV ds.length t)
  case atStart=>exact⟨0,none,0,rfl,rfl,Nat.zero_le _,Ext.refl _,Lh (Own.nil _ _ _ _ _)⟩
  case round=>
   obtain⟨i,oa,oc,rfl,rfl,hi,hX,HO⟩:=hrel
   have hi0:=nZ0 i
   have him:i≤15:=by omega
   have hXw:=HZ.out.2.trans hX
   by_cases hlt:i< ds.length
   ·
    have hiI:(i:Int)< (ds.length:Int):=by omega
    obtain⟨gd,od,xa,xk,rfl,lgd,_,d0,d1,d2,d3,d4,hxa,hxk⟩:=node_at hvd i hlt
    have hnl:=node_len hvd i hlt
    have HST:=Lh (heldsOf_step ds i hlt)
    obtain⟨d,hd⟩:∃d,ds[i]=d:=⟨_,rfl⟩
    rw[hd]at d0 d1 d2 hxa hxk hnl HST
    obtain⟨xab,xac,rfl,_,_⟩:=hxa.count z_attr kA
    obtain⟨xkb,xkc,rfl,_,_⟩:=hxk.count z_node kA
    have n0:=hXw.keep lgd d0;have n1:=hXw.keep lgd d1;have n2:=hXw.keep lgd d2;have n3:=hXw.keep lgd d3;have n4:=hXw.keep lgd d4
    obtain⟨us,hrow,hrep⟩:=HO.out.rows
    have hrX:=hXw.size
    have HX4:=Lh (And.intro hxa (And.intro hxk (And.intro hnl hrep)))
    have hszw:=hX.size
    clear hd HO hxa hxk hnl d0 d1 d2 d3 d4 hrep
    go_wp2_with (at_builtin;refine wpList_append_own_at _ rfl (.tmp 17) (.tmp 25) _ rfl w1.heap.size 98 k0 (.agg #[.int .i64 0,.int .i64 0,.string ⟨#[]⟩,.string ⟨#[]⟩,.slice none 0 0,.slice none 0 0]) 6 96 Tryz.underlying96 ki kz0 kz1 kz2 rfl kD (.slice oa i oc) i us rfl (hrow.alloc _) ⟨wr.heap.size,0,none⟩ 1 1 [.int .i64 ((i:Int)+1),.int .i64 d.kind,.string (bs d.name),.string (bs d.text),.slice xab d.attrs.length xac,.slice xkb d.kids.length xkc] rfl rfl (new_cells _) kP kC kA kM ?_;intro v2 w3 hown2 hgrow2 _ hat2)
    obtain⟨o2a,o2c,rfl⟩:=own_form hown2
    have hEa:Ext wr (wr.alloc (.cells #[.int .i64 ((i:Int)+1),.int .i64 d.kind,.string (bs d.name),.string (bs d.text),.slice xab d.attrs.length xac,.slice xkb d.kids.length xkc] 98)):=(Ext.refl wr).alloc _
    have hX3:Ext w1 w3:=Below.grown (hX.trans hEa) hgrow2 (Below.size (hX.trans hEa)) fun k hk=>(own_lt hrow hk.symm).1
    have hO3:Hid (Own w3 (fun b=>p b∧b< w.heap.size) w1.heap.size 98 6 (.slice o2a (i+1) o2c) (i+1) ((heldsOf (ds.take (i+1)) 0).flatMap heldC)):=Lh (by
     obtain⟨hxa,hxk,hnl,hrep⟩:=HX4.out
     rw[HST.out,List.flatMap_append]
     have e2: [(⟨(i:Int)+1,d⟩:Held)].flatMap heldC=heldC ⟨(i:Int)+1,d⟩:=by simp
     rw[e2]
     have hXE:=hXw.trans hEa
     have hsE:=hXE.size
     have hok:∀b,p b∧b< w.heap.size→(p b∧b< w.heap.size)∧some b≠(Value.slice oa i oc).ownBlock∧b< (wr.alloc (.cells #[.int .i64 ((i:Int)+1),.int .i64 d.kind,.string (bs d.name),.string (bs d.text),.slice xab d.attrs.length xac,.slice xkb d.kids.length xkc] 98)).heap.size:=fun b hb=>⟨hb,fun e=>by have:=(own_lt hrow e).1;omega,by omega⟩
     refine Own.push ((hrep.ext hEa).ok fun b hb=>⟨hb.1,hb.2.1,Nat.lt_of_lt_of_le hb.2.2 hEa.size⟩) ?_ hown2 hgrow2 hat2
     unfold heldC
     rw[nodeC_eq]
     exact Reps.cons (Rep.int _ _ _ _) (Reps.cons (Rep.int _ _ _ _) (Reps.cons (Rep.string _ _ _ (by rw[bs_size];exact hnl.1)) (Reps.cons (Rep.string _ _ _ (by rw[bs_size];exact hnl.2)) (Reps.cons ((hxa.lt.ext hXE).ok hok) (Reps.cons ((hxk.lt.ext hXE).ok hok) (Reps.nil _ _)))))))
    clear HX4 hown2 hgrow2 hat2 hrow n0 n1 n2 n3 n4 hEa hX hXw
    go_wp2_with fail
    go_roundw
    case rel=>exact⟨i+1,o2a,o2c,by go_num,rfl,by omega,hX3,hO3⟩
    case measure=>exact mZ
   ·
    have hiI:¬(i:Int)< (ds.length:Int):=by omega
    have hie:i=ds.length:=by omega
    subst hie
    have hOR:=HO.out.rep
    rw[List.take_of_length_le (Nat.le_refl _)]at hOR
    have hsz9:=hX.size
    have HNO:=Lh fun W (hE:Ext wr W)=>node_any l HOK.out (nszL ds+1) [nm] ⟨nm,[]⟩ (heldsOf ds 0) [] (fun b=>p b∧b< w.heap.size∨w.heap.size+1≤b) (.slice (some ⟨gl,ol,none⟩) l.length lc) (.slice (some ⟨gpp,op,none⟩) 1 pc) (.slice none 0 0) (.slice oa ds.length oc) (.slice none 0 0) W (by cases ds with | nil=>exact absurd rfl hne | cons d r=>intro e;rw[heldsOf]at e;cases e)
     (fun h hm=>by
      obtain⟨a,_,_⟩:=heldsOf_mem ds 0 h hm
      have h1:=nszL_le ds h.n a
      have h2:=HDS.out _ a
      have h3:=nsz_cnt h.n
      exact⟨h2.1,by omega,h2.2,by simp only[List.length_cons,List.length_nil];omega⟩)
     (by rw[hszL_held];exact nszL_bound ds (fun d hd=>(HDS.out d hd).2) hd12) (by rw[heldsOf_len];omega) kI (by simpa using hnm)
     ((hvl.lt.ext (hXw.trans hE)).ok fun b hb=> .inl hb) ((HRP.out.lt.ext (hXw.trans hE)).ok fun b hb=> .inl hb) (.nil 1) ((hOR.ext hE).ok fun b hb=>hb.elim .inl fun h=> .inr kA) (.nil 2)
    have hroot:rootP l nm ds=nodeP l (nszL ds+1) [nm] ⟨nm,[]⟩ (heldsOf ds 0) []:=by unfold rootP;rw[if_neg hne]
    rw[←hroot]at HNO
    obtain⟨RT,hRT⟩:∃R,rootP l nm ds=R:=⟨_,rfl⟩
    rw[hRT]at HNO
    have HRT:=Lh hRT
    have c0:=hXw.keep lgl r0
    have c1:=hXw.keep lgp s0
    have lgl8:gl< wr.heap.size:=Nat.lt_of_lt_of_le lgl hXw.size
    have lgp8:gpp< wr.heap.size:=Nat.lt_of_lt_of_le lgp hXw.size
    have HZ8:=Lh (And.intro (HZ.out.1.ext hX) hXw)
    clear hroot hRT hOR HO HZ r0 s0 HRP hX hXw
    obtain⟨wo,hwo⟩:∃wo,wo=wr:=⟨_,rfl⟩
    subst hwo
    go_wp2_with fail
    refine region_merge (fun ac ac' w'=>∃(ka:Option Addr) (va:Option Addr) (pa:Option Addr) (ca:Option Addr) (kc:Nat) (vc:Nat) (pc2:Nat) (cc:Nat) (wx:World),ac'=(((((((((((((((((ac.put (some 27) (.slice da ds.length dc)).put (some 28) (.int .i64 ds.length)).put (some 29) (.slice (some ⟨gl,ol,none⟩) l.length lc)).put (some 30) (.slice (some ⟨gl,ol,none⟩) l.length lc)).put (some 31) (.pointer (some ⟨gl,ol,none⟩))).put (some 32) (.pointer (some ⟨gl,ol,none⟩))).put (some 33) (.slice (some ⟨gpp,op,none⟩) 1 pc)).put (some 34) (.slice (some ⟨gl,ol,none⟩) l.length lc)).put (some 35) (.pointer (some ⟨gl,ol,none⟩))).put (some 36) (.pointer (some ⟨gl,ol,none⟩))).put (some 37) (.slice (some ⟨gpp,op,none⟩) 1 pc)).put (some 38) (.pointer (some ⟨gpp,op,none⟩))).put (some 39) (.string (bs nm))).put (some 40) (.agg #[.string (bs nm),.slice none 0 0])).put (some 41) (.slice oa ds.length oc)).put (some 42) (.agg #[.string (bs RT.name),.slice ka RT.key.length kc,.slice va RT.vers.length vc,.slice pa RT.parts.length pc2,.slice ca RT.kids.length cc])).put (some 43) (.agg #[.int .i64 ds.length,.string (bs RT.name),.slice ka RT.key.length kc,.slice va RT.vers.length vc,.slice pa RT.parts.length pc2,.slice ca RT.kids.length cc]))∧w'=sar wx w.heap.size ds.length RT (.slice ka RT.key.length kc) (.slice va RT.vers.length vc) (.slice pa RT.parts.length pc2) (.slice ca RT.kids.length cc)∧Ext wo wx∧Hid (Rep wx (fun b=>p b∧b< w.heap.size∨w.heap.size+1≤b) (.slice ka RT.key.length kc) (strsD RT.key)∧Rep wx (fun b=>p b∧b< w.heap.size∨w.heap.size+1≤b) (.slice va RT.vers.length vc) (spansD RT.vers)∧Rep wx (fun b=>p b∧b< w.heap.size∨w.heap.size+1≤b) (.slice pa RT.parts.length pc2) (partsD RT.parts)∧Rep wx (fun b=>p b∧b< w.heap.size∨w.heap.size+1≤b) (.slice ca RT.kids.length cc) (anodesD RT.kids))) ?_ ?_
    ·
     refine rg_aside (S := Sx wo) 17 ⟨none, .store 34 (.tmp 4) (.tmp 43), 0, "ref.go:100", #[⟨16, .data⟩, ⟨15, .chain⟩, ⟨0, .phase⟩, ⟨1, .phase⟩, ⟨2, .phase⟩, ⟨3, .phase⟩, ⟨4, .phase⟩, ⟨5, .phase⟩, ⟨6, .phase⟩, ⟨7, .phase⟩, ⟨8, .phase⟩, ⟨9, .phase⟩, ⟨10, .phase⟩, ⟨11, .phase⟩, ⟨12, .phase⟩, ⟨13, .phase⟩, ⟨14, .phase⟩, ⟨15, .phase⟩, ⟨16, .phase⟩], none⟩ kB kD rfl rfl kB kB (Sx.begin _) ?_
     have hSz:Sx wo (World.drew wo):=(Sx.begin _)
     simp only[List.setIfInBounds_toArray,List.set_cons_zero,List.set_cons_succ]
     refine gT 0 27 (.slice da ds.length dc) hSz ?_
     simp only[Act.put,sA,sZ,sS]
     refine gT 1 28 (.int .i64 ds.length) hSz ?_
     simp only[Act.put,sA,sZ,sS]
     refine gT 2 29 (.slice (some ⟨gl,ol,none⟩) l.length lc) hSz ?_
     simp only[Act.put,sA,sZ,sS]
     refine gT 3 30 (.slice (some ⟨gl,ol,none⟩) l.length lc) hSz ?_
     simp only[Act.put,sA,sZ,sS]
     refine gT 4 31 (.pointer (some ⟨gl,ol,none⟩)) hSz ?_
     simp only[Act.put,sA,sZ,sS]
     refine gT 5 32 (.pointer (some ⟨gl,ol,none⟩)) hSz ?_
     simp only[Act.put,sA,sZ,sS]
     refine gT 6 33 (.slice (some ⟨gpp,op,none⟩) 1 pc) hSz ?_ (hv:=fun w' hs=>by(have h0:=hs.cell lgl8 c0;go_simp))
     simp only[Act.put,sA,sZ,sS]
     refine gT 7 34 (.slice (some ⟨gl,ol,none⟩) l.length lc) hSz ?_
     simp only[Act.put,sA,sZ,sS]
     refine gT 8 35 (.pointer (some ⟨gl,ol,none⟩)) hSz ?_
     simp only[Act.put,sA,sZ,sS]
     refine gT 9 36 (.pointer (some ⟨gl,ol,none⟩)) hSz ?_
     simp only[Act.put,sA,sZ,sS]
     refine gT 10 37 (.slice (some ⟨gpp,op,none⟩) 1 pc) hSz ?_ (hv:=fun w' hs=>by(have h0:=hs.cell lgl8 c0;go_simp))
     simp only[Act.put,sA,sZ,sS]
     refine gT 11 38 (.pointer (some ⟨gpp,op,none⟩)) hSz ?_
     simp only[Act.put,sA,sZ,sS]
     refine gT 12 39 (.string (bs nm)) hSz ?_ (hv:=fun w' hs=>by(have h0:=hs.cell lgp8 c1;go_simp))
     simp only[Act.put,sA,sZ,sS]
     refine gT 13 40 (.agg #[.string (bs nm),.slice none 0 0]) hSz ?_
     simp only[Act.put,sA,sZ,sS]
     refine gT 14 41 (.slice oa ds.length oc) hSz ?_
     simp only[Act.put,sA,sZ,sS]
     refine rg_one 15 kB ?_
     refine tk_call 15 (some 42) 40 #[.slice (some ⟨gl,ol,none⟩) l.length lc,.slice (some ⟨gpp,op,none⟩) 1 pc,.agg #[.string (bs nm),.slice none 0 0],.slice oa ds.length oc,.slice none 0 0] rfl rfl (by rfl) (fun w'=>by first | rfl | go_simp) (R:=fun v w'=>∃(ka va pa ca:Option Addr) (kc vc pc2 cc:Nat),v= .agg #[.string (bs RT.name),.slice ka RT.key.length kc,.slice va RT.vers.length vc,.slice pa RT.parts.length pc2,.slice ca RT.kids.length cc]∧Hid (Rep w' (fun b=>p b∧b< w.heap.size∨w.heap.size+1≤b) (.slice ka RT.key.length kc) (strsD RT.key)∧Rep w' (fun b=>p b∧b< w.heap.size∨w.heap.size+1≤b) (.slice va RT.vers.length vc) (spansD RT.vers)∧Rep w' (fun b=>p b∧b< w.heap.size∨w.heap.size+1≤b) (.slice pa RT.parts.length pc2) (partsD RT.parts)∧Rep w' (fun b=>p b∧b< w.heap.size∨w.heap.size+1≤b) (.slice ca RT.kids.length cc) (anodesD RT.kids))∧Ext (World.drew wo) w') ?_ ?_
     ·
      refine(HNO.out _ ((Ext.refl wo).drew)).mono ?_
      rintro e w' ⟨⟨ka,va,pa,ca,kc,vc,pc2,cc,rfl,h1,h2,h3,h4⟩,h⟩
      have hcv:∀b,((p b∧b< w.heap.size∨w.heap.size+1≤b)∨(World.drew wo).heap.size≤b)→(p b∧b< w.heap.size∨w.heap.size+1≤b):=fun b hb=>hb.elim (fun h=>h) fun h=> .inr (by have:=((Ext.refl wo).drew).size;have:=HZ8.out.1.lt;omega)
      exact⟨_,rfl,ka,va,pa,ca,kc,vc,pc2,cc,rfl,Lh ⟨h1.ok hcv,h2.ok hcv,h3.ok hcv,h4.ok hcv⟩,h⟩
     rintro _ wx ⟨ka,va,pa,ca,kc,vc,pc2,cc,rfl,HK4,hBx⟩
     have hSx1:Sx wo wx:=hSz.ext hBx
     refine⟨hSx1,?_⟩
     simp only[Act.put,sA,sZ,sS]
     refine gT 16 43 (.agg #[.int .i64 ds.length,.string (bs RT.name),.slice ka RT.key.length kc,.slice va RT.vers.length vc,.slice pa RT.parts.length pc2,.slice ca RT.kids.length cc]) hSx1 ?_
     simp only[Act.put,sA,sZ,sS]
     refine rg_t 17 none (.bool true) rfl hSx1 (fun w' hs=>by rfl) ?_
     simp only[Act.put,sA,sZ,sS]
     refine rg_done kB ?_
     refine qlast_normal ?_
     refine tk_write 17 none (sar wx w.heap.size ds.length RT (.slice ka RT.key.length kc) (.slice va RT.vers.length vc) (.slice pa RT.parts.length pc2) (.slice ca RT.kids.length cc)) (by rfl) rfl (by rfl) (exec_store rfl (store_arch (HZ8.out.1.ext hSx1) _ _ _ _ _ _ _ _ _ _ _ _ _ _)) ?_
     exact⟨ka,va,pa,ca,kc,vc,pc2,cc,wx,kH,rfl,hSx1,HK4⟩
    rintro _ w9 ⟨ka,va,pa,ca,kc,vc,pc2,cc,wx,rfl,hw9,hEx,HK4⟩
    simp only[Act.put,sA,sZ,sS]
    have HZ9:=Lh (HZ8.out.1.ext hEx)
    have hX9:Ext w w9:=by rw[hw9];exact(HZ8.out.2.trans hEx).sar (Nat.le_refl _) _ _ _ _ _ _
    have HF9:Hid (Rep w9 (fun b=>p b∨w.heap.size≤b) (.slice ka RT.key.length kc) (strsD RT.key)∧Rep w9 (fun b=>p b∨w.heap.size≤b) (.slice va RT.vers.length vc) (spansD RT.vers)∧Rep w9 (fun b=>p b∨w.heap.size≤b) (.slice pa RT.parts.length pc2) (partsD RT.parts)∧Rep w9 (fun b=>p b∨w.heap.size≤b) (.slice ca RT.kids.length cc) (anodesD RT.kids)):=by
     obtain⟨h1,h2,h3,h4⟩:=HK4.out
     have hrep:∀(v:Value) (d:DV),Rep wx (fun b=>p b∧b< w.heap.size∨w.heap.size+1≤b) v d→Rep w9 (fun b=>p b∨w.heap.size≤b) v d:=fun v d hv=>by
      rw[hw9]
      exact(hv.kept fun b hb _=>sar_block _ _ _ _ _ _ _ _ kA).ok fun b hb=>hb.elim (fun h=> .inl h.1) fun h=> .inr kA
     exact Lh ⟨hrep _ _ h1,hrep _ _ h2,hrep _ _ h3,hrep _ _ h4⟩
    have HW9:=Lh hw9
    clear HK4 hEx hw9 c0 c1 HNO HZ8
    go_wp2_with fail
    (try simp only[Exit.inBlock,Exit.then])
    rw[HW9.out]
    refine bodyPost_ret (res_one rfl _ _ _ ⟨w.heap.size,0,none⟩ ?_ (load_arch HZ9.out _ _ _ _ _ _)) rfl ?_
    ·
     rfl
    rw[←HW9.out,HRT.out]
    exact⟨⟨ka,va,pa,ca,kc,vc,pc2,cc,rfl,HF9.out⟩,hX9⟩
def mayG:Int→List Span→Prop
 | _,[]=>True
 | lo,s::r=>lo≤s.a∧s.a≤s.b∧s.b≤200∧mayG (s.b+2) r
def inS (l:List Span) (v:Int):Bool:=l.any fun s=>decide (s.a≤v∧v≤s.b)
theorem mayG_mono:∀(l:List Span) (a b:Int),a≤b→mayG b l→mayG a l
 | [],_,_,_,_=>trivial
 | s::r,a,b,h,⟨h1,h2⟩=>⟨by omega,h2⟩
theorem runE_all (f:Nat→Bool):∀(k t:Nat),(∀j,t< j→j≤runE f k t→f j=true)∧(200 - t≤k→runE f k t< 200→f (runE f k t+1)=false)
 | 0,t=>by refine⟨fun j h1 h2=> ?_,fun h1 h2=> ?_⟩<;> simp only[runE]at h2⊢<;> omega
 | k+1,t=>by
  unfold runE
  split
  ·
   rename_i h
   obtain⟨a,b⟩:=runE_all f k (t+1)
   refine⟨fun j h1 h2=> ?_,fun h1 h2=>b kA h2⟩
   by_cases e:j=t+1
   ·
    rw[e];exact h.2
   ·
    exact a j kA h2
  ·
   rename_i h
   refine⟨fun j h1 h2=>by omega,fun h1 h2=> ?_⟩
   cases hf:f (t+1)with
   | false=>rfl
   | true=>exact absurd ⟨h2,hf⟩ h
theorem spansV_may (f:Nat→Bool):∀(k v:Nat),201 - v≤k→mayG v (spansV f k v)∧∀j:Nat,v≤j→j≤200→inS (spansV f k v) j=f j
 | 0,v,h=>⟨trivial,fun j h1 h2=>by omega⟩
 | k+1,v,h=>by
  unfold spansV
  by_cases hv:v≤200
  ·
   rw[if_pos hv]
   by_cases hf:f v=true
   ·
    rw[if_pos hf]
    obtain⟨g1,g2⟩:=runE_ge f (200 - v) v
    obtain⟨a1,a2⟩:=runE_all f (200 - v) v
    obtain⟨E,hE⟩:∃E,runE f (200 - v) v=E:=⟨_,rfl⟩
    rw[hE]at g1 g2 a1 a2⊢
    have g3:=g2 hv
    obtain⟨i1,i2⟩:=spansV_may f k (E+1) kA
    have hm:mayG ((E:Int)+2) (spansV f k (E+1)):=by
     cases hL:spansV f k (E+1)with
     | nil=>trivial
     | cons s r=>
      rw[hL]at i1 i2
      obtain⟨j1,j2,j3,j4⟩:=i1
      refine⟨?_,j2,j3,j4⟩
      by_cases e:s.a=((E+1:Nat):Int)
      ·
       have h1:=i2 (E+1) (Nat.le_refl _) kA
       rw[a2 kA kA]at h1
       rw[inS,List.any_cons,decide_eq_true kA,Bool.true_or]at h1
       cases h1
      ·
       omega
    refine⟨⟨Int.le_refl _,by simp only;omega,by simp only;omega,hm⟩,fun j h1 h2=> ?_⟩
    rw[inS,List.any_cons]
    by_cases hj:j≤E
    ·
     rw[decide_eq_true kS,Bool.true_or]
     by_cases e:j=v
     ·
      rw[e];exact hf.symm
     ·
      exact(a1 j kA hj).symm
    ·
     rw[decide_eq_false kS,Bool.false_or]
     exact i2 j kA h2
   ·
    rw[if_neg hf]
    obtain⟨i1,i2⟩:=spansV_may f k (v+1) kA
    refine⟨mayG_mono _ _ _ kA i1,fun j h1 h2=> ?_⟩
    by_cases e:j=v
    ·
     subst e
     rw[show f j=false by simpa using hf]
     have hno:∀(l:List Span) (lo:Int),mayG lo l→∀x:Int,x< lo→inS l x=false:=by
      intro l
      induction l with
      | nil=>intro lo _ x _;rfl
      | cons s r ih=>
       intro lo hm x hx
       obtain⟨j1,j2,j3,j4⟩:=hm
       rw[inS,List.any_cons,decide_eq_false kA,Bool.false_or]
       exact ih _ j4 x kA
     exact hno _ _ i1 j kA
    ·
     exact i2 j kA h2
  ·
   rw[if_neg hv]
   exact⟨trivial,fun j h1 h2=>by omega⟩
theorem inS_out:∀(l:List Span) (lo:Int),mayG lo l→∀x:Int,(x< lo∨200< x)→inS l x=false
 | [],_,_,_,_=>rfl
 | s::r,lo,⟨h1,h2,h3,h4⟩,x,hx=>by
  rw[inS,List.any_cons,decide_eq_false kA,Bool.false_or]
  exact inS_out r _ h4 x kA
theorem spansOf_may (f:Nat→Bool):mayG 1 (spansOf f):=(spansV_may f 200 1 kA).1
theorem inS_spansOf (f:Nat→Bool) (j:Nat) (h1:1≤j) (h2:j≤200):inS (spansOf f) j=f j:=(spansV_may f 200 1 kA).2 j h1 h2
theorem inS_of (f:Nat→Bool) (v:Int):inS (spansOf f) v=(decide (1≤v∧v≤200) && f v.toNat):=by
 by_cases h:1≤v∧v≤200
 ·
  have e:=inS_spansOf f v.toNat kA kA
  rw[Int.toNat_of_nonneg kA]at e
  rw[e,decide_eq_true h,Bool.true_and]
 ·
  rw[inS_out _ 1 (spansOf_may f) v kA,decide_eq_false h,Bool.false_and]
theorem mayI_of:∀(l:List Span) (lo ahead:Int),mayG lo l→1≤lo→(ahead< 0∨ahead+2≤lo)→mayI l ahead=true
 | [],_,_,_,_,_=>rfl
 | s::r,lo,ahead,⟨h1,h2,h3,h4⟩,h,ha=>by
  have v1:verB s.a=true:=decide_eq_true kA
  have v2:verB s.b=true:=decide_eq_true kA
  rw[mayI,if_pos v1,if_pos v2,if_neg kA,if_neg kA]
  exact mayI_of r _ _ h4 kA (.inr (Int.le_refl _))
theorem lastP_at (la:List Attr) (ks:List Node):∀(x:List Part) (i:Nat) (r:Int),lastP la ks x i r=r∨∃(j:Nat) (h:j< x.length),lastP la ks x i r=((i+j:Nat):Int)∧x[j].attrs=la∧x[j].kids=ks
 | [],i,r=> .inl rfl
 | a::x,i,r=>by
  rw[lastP]
  rcases lastP_at la ks x (i+1) (if attrsS a.attrs la=true∧sameL a.kids ks=true then(i:Int)else r)with h | ⟨j,hj,h1,h2,h3⟩
  ·
   rw[h]
   split
   ·
    rename_i c
    exact .inr ⟨0,by simp,by simp,(attrsS_iff _ _).1 c.1,(sameL_iff _ _).1 c.2⟩
   ·
    exact .inl rfl
  ·
   exact .inr ⟨j+1,by simpa using hj,by rw[h1];congr 1;omega,by simpa using h2,by simpa using h3⟩
structure PInv (whole:Bool) (done:List Held) (g:List Part×List (List Int)):Prop where
 len:g.1.length=g.2.length
 short:g.2.length≤done.length
 bare:∀p∈g.1,p.vers= []
 ne:∀L∈g.2,L≠ []
 of:∀(k:Nat) (h:k< g.2.length) (h':k< g.1.length) (v:Int),v∈g.2[k]→∃d∈done,d.v=v∧d.n.attrs=g.1[k].attrs∧kidsW whole d.n=g.1[k].kids
 all:∀d∈done,∃(k:Nat) (h:k< g.2.length),d.v∈g.2[k]
 rise:∀(i k:Nat) (hi:i< g.2.length) (hk:k< g.2.length),i< k→∃u∈g.2[i],∀v∈g.2[k],u< v
 apart:∀(i k:Nat) (hi:i< g.2.length) (hk:k< g.2.length),i< k→∀v∈g.2[i],v∉g.2[k]
theorem PInv.ver {whole:Bool} {done:List Held} {g:List Part×List (List Int)} (h:PInv whole done g) {h0:Held} (hlt:∀d∈done,d.v< h0.v) {k:Nat} (hk:k< g.2.length) {v:Int} (hv:v∈g.2[k]):v< h0.v:=by
 obtain⟨d,hd,e,_⟩:=h.of k hk (by rw[h.len];exact hk) v hv
 rw[←e];exact hlt d hd
theorem addP_inv (whole:Bool) (done:List Held) (g:List Part×List (List Int)) (h:Held) (hi:PInv whole done g) (hlt:∀d∈done,d.v< h.v):PInv whole (done++ [h]) (addP whole h g):=by
 obtain⟨S,V⟩:=g
 have hlen:=hi.len
 have hver:∀{k:Nat} (hk:k< V.length) {v:Int},v∈V[k]→v< h.v:=fun {k} hk {v} hv=>hi.ver hlt hk hv
 simp only at hlen
 by_cases hc:lastP h.n.attrs (kidsW whole h.n) S 0 (-1)< 0
 ·
  have ha:addP whole h (S,V)=(S++ [⟨[],h.n.attrs,kidsW whole h.n⟩],V++ [[h.v]]):=by unfold addP;rw[if_pos hc]
  rw[ha]
  refine⟨by simp[hlen],by have:=hi.short;simp only[List.length_append,List.length_cons,List.length_nil]at this⊢;omega,fun p hp=> ?_,fun L hL=> ?_,fun k hk hk' v hv=> ?_,fun d hd=> ?_,fun i k hik hkk hlt'=> ?_,fun i k hik hkk hlt' v hv=> ?_⟩
  ·
   rcases List.mem_append.1 hp with hp | hp
   ·
    exact hi.bare p hp
   ·
    rw[List.mem_singleton.1 hp]
  ·
   rcases List.mem_append.1 hL with hL | hL
   ·
    exact hi.ne L hL
   ·
    rw[List.mem_singleton.1 hL];simp
  ·
   by_cases hk2:k< V.length
   ·
    simp only[List.getElem_append_left hk2]at hv
    obtain⟨d,hd,e1,e2,e3⟩:=hi.of k hk2 kS v hv
    simp only[List.getElem_append_left (show k< S.length by omega)]
    exact⟨d,List.mem_append_left _ hd,e1,e2,e3⟩
   ·
    have hkk:k=V.length:=by simp at hk;omega
    subst hkk
    simp only[List.getElem_append_right (Nat.le_refl _),Nat.sub_self,List.getElem_cons_zero,List.mem_singleton]at hv
    have hs:S.length=V.length:=hlen
    refine⟨h,by simp,hv.symm,?_,?_⟩
    ·
     simp only[List.getElem_append_right (show S.length≤V.length by omega),hs,Nat.sub_self,List.getElem_cons_zero]
    ·
     simp only[List.getElem_append_right (show S.length≤V.length by omega),hs,Nat.sub_self,List.getElem_cons_zero]
  ·
   rcases List.mem_append.1 hd with hd | hd
   ·
    obtain⟨k,hk,hv⟩:=hi.all d hd
    exact⟨k,by simp only[List.length_append];simp only at hk;omega,by simp only[List.getElem_append_left hk];exact hv⟩
   ·
    rw[List.mem_singleton.1 hd]
    exact⟨V.length,by simp,by simp⟩
  ·
   have hiV:i< V.length:=by simp only[List.length_append,List.length_cons,List.length_nil]at hkk;omega
   simp only[List.getElem_append_left hiV]
   by_cases hk2:k< V.length
   ·
    simp only[List.getElem_append_left hk2]
    exact hi.rise i k hiV hk2 hlt'
   ·
    have hkk:k=V.length:=by simp at hkk;omega
    subst hkk
    obtain⟨u,hu⟩:=List.exists_mem_of_ne_nil _ (hi.ne V[i] (List.getElem_mem hiV))
    refine⟨u,hu,fun v hv=> ?_⟩
    simp only[List.getElem_append_right (Nat.le_refl _),Nat.sub_self,List.getElem_cons_zero,List.mem_singleton]at hv
    rw[hv];exact hver hiV hu
  ·
   have hiV:i< V.length:=by simp only[List.length_append,List.length_cons,List.length_nil]at hkk;omega
   simp only[List.getElem_append_left hiV]at hv
   by_cases hk2:k< V.length
   ·
    simp only[List.getElem_append_left hk2]
    exact hi.apart i k hiV hk2 hlt' v hv
   ·
    have hkk:k=V.length:=by simp at hkk;omega
    subst hkk
    simp only[List.getElem_append_right (Nat.le_refl _),Nat.sub_self,List.getElem_cons_zero,List.mem_singleton]
    have:=hver hiV hv;omega
 ·
  obtain⟨j,hj,e1,e2,e3⟩:∃(j:Nat) (hj:j< S.length),lastP h.n.attrs (kidsW whole h.n) S 0 (-1)=(j:Int)∧S[j].attrs=h.n.attrs∧S[j].kids=kidsW whole h.n:=by
   rcases lastP_at h.n.attrs (kidsW whole h.n) S 0 (-1)with e | ⟨j,hj,e1,e2,e3⟩
   ·
    rw[e]at hc;exact absurd kD hc
   ·
    exact⟨j,hj,by rw[e1];congr 1;omega,e2,e3⟩
  have ha:addP whole h (S,V)=(S,V.modify j (· ++ [h.v])):=by unfold addP;rw[if_neg hc,e1,Int.toNat_natCast]
  rw[ha]
  have hmem:∀(k:Nat) (hk:k< (V.modify j (· ++ [h.v])).length) (hk':k< V.length) (v:Int),v∈(V.modify j (· ++ [h.v]))[k]↔v∈V[k]∨(j=k∧v=h.v):=by
   intro k hk hk' v
   rw[List.getElem_modify]
   split
   ·
    rename_i e;simp[e]
   ·
    rename_i e;simp[e]
  have hml:(V.modify j (· ++ [h.v])).length=V.length:=by simp
  refine⟨by rw[hml];exact hlen,by rw[hml];have:=hi.short;simp only[List.length_append]at this⊢;simp only[List.length_cons,List.length_nil];omega,fun p hp=>hi.bare p hp,fun L hL=> ?_,fun k hk hk' v hv=> ?_,fun d hd=> ?_,fun i k hik hkk hlt'=> ?_,fun i k hik hkk hlt' v hv=> ?_⟩
  ·
   obtain⟨k,hk,rfl⟩:=List.getElem_of_mem hL
   simp only[hml]at hk
   obtain⟨u,hu⟩:=List.exists_mem_of_ne_nil _ (hi.ne V[k] (List.getElem_mem hk))
   exact List.ne_nil_of_mem ((hmem k (by rw[hml];exact hk) hk u).2 (.inl hu))
  ·
   simp only[hml]at hk
   rcases (hmem k (by rw[hml];exact hk) hk v).1 hv with hq | ⟨e,hq⟩
   ·
    obtain⟨d,hd,a,b,c⟩:=hi.of k hk kS v hq
    exact⟨d,List.mem_append_left _ hd,a,b,c⟩
   ·
    subst e
    exact⟨h,by simp,hq.symm,e2.symm,e3.symm⟩
  ·
   rcases List.mem_append.1 hd with hd | hd
   ·
    obtain⟨k,hk,hv⟩:=hi.all d hd
    simp only at hk hv
    exact⟨k,by rw[hml];exact hk,(hmem k (by rw[hml];exact hk) hk _).2 (.inl hv)⟩
   ·
    rw[List.mem_singleton.1 hd]
    have hjV:j< V.length:=by omega
    exact⟨j,by rw[hml];exact hjV,(hmem j (by rw[hml];exact hjV) hjV _).2 (.inr ⟨rfl,rfl⟩)⟩
  ·
   simp only[hml]at hik hkk
   obtain⟨u,hu,huv⟩:=hi.rise i k hik hkk hlt'
   refine⟨u,(hmem i (by rw[hml];exact hik) hik u).2 (.inl hu),fun v hv=> ?_⟩
   rcases (hmem k (by rw[hml];exact hkk) hkk v).1 hv with hv | ⟨_,hv⟩
   ·
    exact huv v hv
   ·
    rw[hv];exact hver hik hu
  ·
   simp only[hml]at hik hkk
   intro hv2
   rcases (hmem i (by rw[hml];exact hik) hik v).1 hv with hv | ⟨e,hv⟩
   ·
    rcases (hmem k (by rw[hml];exact hkk) hkk v).1 hv2 with hv2 | ⟨_,hv2⟩
    ·
     exact hi.apart i k hik hkk hlt' v hv hv2
    ·
     have:=hver hik hv;omega
   ·
    rcases (hmem k (by rw[hml];exact hkk) hkk v).1 hv2 with hv2 | ⟨e2,_⟩
    ·
     have:=hver hkk hv2;omega
    ·
     omega
theorem partsG_inv (whole:Bool):∀(hs done:List Held) (g:List Part×List (List Int)),PInv whole done g→(∀d∈done,∀h∈hs,d.v< h.v)→hs.Pairwise (fun a b=>a.v< b.v)→PInv whole (done++hs) (partsG whole hs g)
 | [],done,g,hi,_,_=>by rw[List.append_nil];exact hi
 | h::r,done,g,hi,hd,hp=>by
  rw[List.pairwise_cons]at hp
  rw[partsG,show done++h::r=(done++ [h])++r by simp]
  refine partsG_inv whole r _ _ (addP_inv whole done g h hi fun d hm=>hd d hm h List.mem_cons_self) (fun d hm k hk=> ?_) hp.2
  rcases List.mem_append.1 hm with hm | hm
  ·
   exact hd d hm k (List.mem_cons_of_mem _ hk)
  ·
   rw[List.mem_singleton.1 hm];exact hp.1 k hk
theorem partsG_all (whole:Bool) (hs:List Held) (hp:hs.Pairwise (fun a b=>a.v< b.v)):PInv whole hs (partsG whole hs ([],[])):=by
 have h0:PInv whole [] ([],[]):=⟨rfl,Nat.le_refl _,fun p h=>(by cases h),fun p h=>(by cases h),fun k h=>absurd h (Nat.not_lt_zero _),fun d h=>(by cases h),fun i k h=>absurd h (Nat.not_lt_zero _),fun i k h=>absurd h (Nat.not_lt_zero _)⟩
 have:=partsG_inv whole hs [] ([],[]) h0 (fun d h=>(by cases h)) hp
 simpa using this
theorem flOf_mem (L:List Int) (j:Nat):flOf L j=true↔1≤j∧j≤200∧(j:Int)∈L:=by unfold flOf;exact decide_eq_true_iff
theorem selH_sub (l:List Rule) (path:List Bytes) (t:Step) (hs:List Held) (hr:∀h∈hs,Rising (stepsS l path h.n.kids)):((selH l path t hs).map (·.v)).Sublist (hs.map (·.v)):=by
 have:=selH_filter l path t (fun h=>(lookK t (stepsS l path h.n.kids) h.n.kids).isSome) (fun _=>true) hs fun h hm=>⟨hr h hm,fun e=>by rw[e];rfl,fun k e=>by rw[e];rfl⟩
 rw[List.filter_eq_self.2 (fun _ _=>rfl)]at this
 rw[this]
 exact List.Sublist.map _ List.filter_sublist
theorem heldsOf_rise:∀(ds:List Node) (i:Nat),(heldsOf ds i).Pairwise (fun a b=>a.v< b.v)
 | [],i=>List.Pairwise.nil
 | d::r,i=>by
  rw[heldsOf,List.pairwise_cons]
  refine⟨fun h hm=> ?_,heldsOf_rise r (i+1)⟩
  have:=(heldsOf_mem r (i+1) h hm).2.1
  simp only;omega
def atS (v:Int) (s:Span):Bool:=decide (s.a≤v∧v≤s.b)
def hasV (l:List Span) (n:Int):Bool:=mayI l (-1) && l.any (atS n)
def ahas (l:List Span) (n:Int):Bool:=if l.length=0 then true else hasV l n
def waits (ops:Array Oper):Nat→Nat→Nat→Bool
 | 0,_,_=>false
 | n+1,i,j=>((ops[i]?).map fun o=>o.after.any fun e=>Region.binds .any e && (e.on==j || waits ops n e.on j)).getD false
def atP (v:Int) (x:Part):Bool:=ahas x.vers v
def partA (v:Int) (ps:List Part):List Attr:=((ps.find? (atP v)).map fun x=>x.attrs).getD []
def partK (v:Int) (ps:List Part):List Node:=((ps.find? (atP v)).map fun x=>x.kids).getD []
mutual
def wtN (l:List Rule):Node→List Bytes→Prop
 | .mk _ _ t _ ks,path=>t= []∧(frontS l path=false→wtL l ks path)
def wtL (l:List Rule):List Node→List Bytes→Prop
 | [],_=>True
 | k::r,path=>wtN l k (path++ [k.name])∧wtL l r path
end
theorem wtN_eq (l:List Rule) (n:Node) (path:List Bytes):wtN l n path↔n.text= []∧(frontS l path=false→wtL l n.kids path):=by cases n;rw[wtN];rfl
theorem wtL_mem (l:List Rule) (path:List Bytes):∀(ks:List Node) (k:Node),wtL l ks path→k∈ks→wtN l k (path++ [k.name])
 | [],_,_,h=>by cases h
 | a::r,k,h,hk=>by
  rw[wtL]at h
  rcases List.mem_cons.1 hk with e | hk
  ·
   rw[e];exact h.1
  ·
   exact wtL_mem l path r k h.2 hk
theorem wtL_of (l:List Rule) (path:List Bytes):∀(ks:List Node),(∀k∈ks,wtN l k (path++ [k.name]))→wtL l ks path
 | [],_=>trivial
 | k::r,h=>⟨h k List.mem_cons_self,wtL_of l path r fun k hk=>h k (List.mem_cons_of_mem _ hk)⟩
mutual
theorem norm_wt (l:List Rule):∀(a:Node) (path:List Bytes) (first:Int),a.kind=1→(normN l a path first).2.1=0→wtN l (normN l a path first).1 path
 | .mk k nm tx la ks,path,first,hk,h=>by
  rw[normN]at h⊢
  by_cases hf:frontS l path=true
  ·
   rw[if_pos hf]at h⊢
   rw[wtN_eq]
   exact⟨rfl,fun e=>by rw[hf]at e;cases e⟩
  ·
   rw[if_neg hf]at h⊢
   exact normL_wt l ks nm (sortA [] la) path first [] [] (first+1) (fun k hk=>(by cases hk)) h
theorem normL_wt (l:List Rule):∀(ks:List Node) (nm:Bytes) (la:List Attr) (path:List Bytes) (first:Int) (steps:List Step) (out:List Node) (at':Int),(∀k∈out,wtN l k (path++ [k.name]))→
  (normL l ks nm la path first steps out at').2.1=0→wtN l (normL l ks nm la path first steps out at').1 path
 | [],nm,la,path,first,steps,out,at',hi,h=>by
  rw[normL,wtN_eq]
  exact⟨rfl,fun _=>wtL_of l path out hi⟩
 | k::r,nm,la,path,first,steps,out,at',hi,h=>by
  rw[normL]at h⊢
  by_cases c1:k.kind=2∧trimB k.text≠ []
  ·
   rw[if_pos c1]at h;simp at h
  ·
   rw[if_neg c1]at h⊢
   by_cases c2:k.kind≠1
   ·
    rw[if_pos c2]at h⊢;exact normL_wt l r nm la path first steps out at' hi h
   ·
    rw[if_neg c2]at h⊢
    by_cases c3:findS (path++ [k.name]) l 0< 0
    ·
     rw[if_pos c3]at h;simp at h
    ·
     rw[if_neg c3]at h⊢
     by_cases c4:(normN l k (path++ [k.name]) at').2.1≠0
     ·
      rw[if_pos c4]at h;exact absurd h c4
     ·
      rw[if_neg c4]at h⊢
      have hk:=norm_wt l k (path++ [k.name]) at' (by simpa using c2) (by simpa using c4)
      have hn:=(norm_wf l k (path++ [k.name]) at' (by simpa using c2) (by simpa using c4)).2
      split at h
      ·
       simp at h
      ·
       split at h
       ·
        simp at h
       ·
        rename_i key hkey c5
        rw[if_neg c5]
        refine normL_wt l r nm la path first _ _ _ (fun m hm=> ?_) h
        rcases (mem_insAt _ _ _ _).1 hm with e | hm
        ·
         rw[e,hn];exact hk
        ·
         exact hi m hm
end
theorem hasV_of (L:List Int) (v:Int) (h1:1≤v) (h2:v≤200):hasV (spansOf (flOf L)) v=decide (v∈L):=by
 have h3:(spansOf (flOf L)).any (atS v)=inS (spansOf (flOf L)) v:=rfl
 unfold hasV
 rw[mayI_of _ 1 (-1) (spansOf_may _) kA (.inl kA),Bool.true_and,h3,inS_of,decide_eq_true ⟨h1,h2⟩,Bool.true_and]
 have h4:=flOf_mem L v.toNat
 rw[Int.toNat_of_nonneg kA]at h4
 by_cases hm:v∈L
 ·
  rw[decide_eq_true hm];exact h4.2 ⟨by omega,by omega,hm⟩
 ·
  rw[decide_eq_false hm]
  cases hf:flOf L v.toNat with
  | false=>rfl
  | true=>exact absurd (h4.1 hf).2.2 hm
theorem ahas_of (L:List Int) (v:Int) (h1:1≤v) (h2:v≤200) (h0:spansOf (flOf L)≠ []):ahas (spansOf (flOf L)) v=decide (v∈L):=by
 unfold ahas
 rw[if_neg fun e=>h0 (List.eq_nil_of_length_eq_zero e),hasV_of L v h1 h2]
theorem held_uniq:∀(hs:List Held),hs.Pairwise (fun a b=>a.v< b.v)→∀a∈hs,∀b∈hs,a.v=b.v→a=b
 | [],_,a,ha,_,_,_=>by cases ha
 | h::r,hp,a,ha,b,hb,e=>by
  rw[List.pairwise_cons]at hp
  rcases List.mem_cons.1 ha with ea | ha
  ·
   rcases List.mem_cons.1 hb with eb | hb
   ·
    rw[ea,eb]
   ·
    have:=hp.1 b hb;rw[ea]at e;omega
  ·
   rcases List.mem_cons.1 hb with eb | hb
   ·
    have:=hp.1 a ha;rw[eb]at e;omega
   ·
    exact held_uniq r hp.2 a ha b hb e
theorem setV_get:∀(a:List Part) (s:List (List Int)) (k:Nat) (h:k< (setV a s).length),∃(h1:k< a.length) (h2:k< s.length),(setV a s)[k]=⟨spansOf (flOf s[k]),a[k].attrs,a[k].kids⟩
 | [],s,k,h=>by simp[setV]at h
 | _::_,[],k,h=>by simp[setV]at h
 | p::a,q::s,0,h=>⟨by simp,by simp,rfl⟩
 | p::a,q::s,k+1,h=>by
  simp only[setV,List.length_cons]at h
  obtain⟨h1,h2,h3⟩:=setV_get a s k kA
  exact⟨by simpa using h1,by simpa using h2,by simpa [setV]using h3⟩
theorem part_find (whole:Bool) (hs:List Held) (hp:hs.Pairwise (fun a b=>a.v< b.v)) (hv:∀h∈hs,1≤h.v∧h.v≤200) (h:Held) (hm:h∈hs):
  ∃q,(partsP whole hs).find? (atP h.v)=some q∧q.attrs=h.n.attrs∧q.kids=kidsW whole h.n:=by
 have hi:=partsG_all whole hs hp
 have hb:=hv h hm
 obtain⟨k,hk,hvk⟩:=hi.all h hm
 obtain⟨G,hG⟩:∃G,partsG whole hs ([],[])=G:=⟨_,rfl⟩
 have hsame:∀(j:Nat) (hj:j< G.2.length) (hj':j< G.1.length),h.v∈G.2[j]→G.1[j].attrs=h.n.attrs∧G.1[j].kids=kidsW whole h.n:=fun j hj hj' hjv=>by
  subst hG
  obtain⟨d,hd,e1,e2,e3⟩:=hi.of j hj hj' h.v hjv
  rw[held_uniq hs hp d hd h hm e1]at e2 e3
  exact⟨e2.symm,e3.symm⟩
 unfold partsP
 rw[hG]at hi hk⊢
 simp only[hG]at hvk
 obtain⟨S,V⟩:=G
 have hlen:=hi.len
 simp only at hlen hk hvk hsame⊢
 by_cases hc:1< S.length
 ·
  rw[if_pos hc]
  have hat:∀(j:Nat) (hj:j< (setV S V).length),∃(h1:j< S.length) (h2:j< V.length),(setV S V)[j]=⟨spansOf (flOf V[j]),S[j].attrs,S[j].kids⟩∧(atP h.v (setV S V)[j]=true↔h.v∈V[j]):=fun j hj=>by
   obtain⟨h1,h2,h3⟩:=setV_get S V j hj
   refine⟨h1,h2,h3,?_⟩
   have hne:spansOf (flOf V[j])≠ []:=by
    obtain⟨u,hu⟩:=List.exists_mem_of_ne_nil _ (hi.ne _ (List.getElem_mem h2))
    obtain⟨d,hd,e,_⟩:=hi.of j h2 h1 u hu
    have:=hv d hd
    exact spansOf_ne _ u hu kA kA
   unfold atP
   rw[h3,ahas_of _ _ hb.1 hb.2 hne,decide_eq_true_iff]
  have hsl:=setV_len S V hlen
  cases hf:(setV S V).find? (atP h.v)with
  | none=>
   rw[List.find?_eq_none]at hf
   exact absurd ((hat k kA).2.2.2.2 hvk) (hf _ (List.getElem_mem _))
  | some q=>
   have h1:=List.find?_some hf
   obtain⟨j,hj,e⟩:=List.getElem_of_mem (List.mem_of_find?_eq_some hf)
   obtain⟨j1,j2,j3,j4⟩:=hat j hj
   rw[←e]at h1⊢
   obtain⟨a1,a2⟩:=hsame j j2 j1 (j4.1 h1)
   exact⟨_,rfl,by rw[j3];exact a1,by rw[j3];exact a2⟩
 ·
  rw[if_neg hc]
  obtain⟨q,rfl⟩:=List.length_eq_one_iff.1 (show S.length=1 by omega)
  have hq:=hi.bare q kI
  have ha:atP h.v q=true:=by unfold atP ahas;rw[hq];rfl
  obtain rfl:k=0:=by rw[←hlen]at hk;simp at hk;exact hk
  obtain⟨a1,a2⟩:=hsame 0 hk kI hvk
  exact⟨q,by rw[List.find?_cons,ha],a1,a2⟩
theorem lookK_mem (s:Step):∀(ss:List Step) (ks:List Node),ss.length=ks.length→s∈ss→∃k,lookK s ss ks=some k
 | [],_,_,h=>by cases h
 | _::_,[],h,_=>by cases h
 | a::ss,k::ks,h,hm=>by
  rw[lookK]
  by_cases e:s=a
  ·
   rw[if_pos e];exact⟨_,rfl⟩
  ·
   rw[if_neg e]
   rcases List.mem_cons.1 hm with h1 | h1
   ·
    exact absurd h1 e
   ·
    exact lookK_mem s ss ks kJ h1
theorem fmap_congr {α β:Type} (f g:α→Option β):∀(l:List α),(∀x∈l,f x=g x)→l.filterMap f=l.filterMap g
 | [],_=>rfl
 | a::l,h=>by rw[List.filterMap_cons,List.filterMap_cons,h a List.mem_cons_self,fmap_congr f g l fun x hx=>h x (List.mem_cons_of_mem _ hx)]
def HeldOK (l:List Rule) (path:List Bytes) (s:Step) (N:Nat) (hs:List Held):Prop:=
 hs.Pairwise (fun a b=>a.v< b.v)∧∀h∈hs,wfN l h.n path∧wtN l h.n path∧h.n.name=s.n∧nsz h.n≤N∧1≤h.v∧h.v≤200
theorem HeldOK.below {l:List Rule} {path:List Bytes} {s:Step} {N:Nat} {hs:List Held} (h:HeldOK l path s (N+1) hs) (hf:frontS l path=false) (t:Step):HeldOK l (path++ [t.n]) t N (selH l path t hs):=by
 obtain⟨hp,hh⟩:=h
 have hris:∀h∈hs,Rising (stepsS l path h.n.kids):=fun h hm=>(((wfN_eq l h.n path).1 (hh h hm).1).2 hf).2.1
 refine⟨?_,fun g hg=> ?_⟩
 ·
  have h1:=(List.pairwise_map (f:=fun h:Held=>h.v) (R:=fun a b=>a< b)).2 hp
  exact List.pairwise_map.1 (h1.sublist (selH_sub l path t hs hris))
 ·
  obtain⟨h,hm,hk,hv⟩:=(selH_mem l path t hs hris g).1 hg
  obtain⟨w1,w2,w3,w4,w5⟩:=hh h hm
  obtain⟨hk1,hk2,_⟩:=(walkF_step l h.n path t [] 0 w1).2 _ hk
  have a1:=wfL_mem l path _ _ (((wfN_eq l h.n path).1 w1).2 hf).2.2 hk1
  have a2:=wtL_mem l path _ _ (((wtN_eq l h.n path).1 w2).2 hf) hk1
  rw[hk2]at a1 a2
  have h6:=nsz_mem _ _ hk1
  exact⟨a1,a2,hk2,by omega,by rw[hv];exact w5⟩
theorem Sx.free {w0 w':World} (h:Sx w0 w') {b o:Nat} {v:Bool} (hb:b< w0.heap.size) (hc:w0.frozen? ⟨b,o,none⟩=v):w'.frozen? ⟨b,o,none⟩=v:=Ext.free h hb hc
theorem held_all {l:List Rule} {nm:Bytes} {ds:List Node} (hw:∀d∈ds,wfN l d [nm]∧wtN l d [nm]∧d.name=nm) (h200:ds.length≤200):HeldOK l [nm] ⟨nm,[]⟩ (nszL ds+1) (heldsOf ds 0):=
 ⟨heldsOf_rise ds 0,fun h hm=>by
  obtain⟨a,b,c⟩:=heldsOf_mem ds 0 h hm
  have:=nszL_le ds h.n a
  exact⟨(hw _ a).1,(hw _ a).2.1,(hw _ a).2.2,by omega,by omega,by omega⟩⟩
theorem nform_wt {l:List Rule} {nm:Bytes} {ks:List Bytes} {rs:List Rule} (hl:l=⟨[nm],ks⟩::rs) {n:Node} (h:NForm l n):wtN l n [nm]:=by
 obtain⟨a,nm',ks',rs',hm,hl',hk,hn,hc,he,h1,h2⟩:=h
 have e:nm'=nm:=by rw[hl]at hl';simp at hl';exact hl'.1.1.symm
 subst e
 rw[he]
 exact norm_wt l a [nm'] 0 hk hc
end Go.Proofs.YtngmgjodcnknoaaGreatDoor
