/-
 Plain:a normal form's normal form is it. Helper lemmas;no statement of the seat is proved here.
-/
import Derived.Test.YtcfibjiikhnfhaaGreatDoorU25
import Derived.Test.YtcfibjiikhnfhaaGreatDoorU26
namespace Go.Proofs.YtcfibjiikhnfhaaGreatDoor
open Go.RowKit
set_option maxHeartbeats 32000000
set_option maxRecDepth 100000
set_option linter.unusedVariables false
set_option linter.unusedSimpArgs false
theorem sortA_nd {l:List Attr} (h:(l.map (·.n)).Nodup):((sortA [] l).map (·.n)).Nodup:=by
 have hp:=sortA_perm' l []
 rw[List.nil_append]at hp
 exact(List.Perm.map _ hp).nodup_iff.2 h
theorem sortA_idem {l:List Attr} (h:(l.map (·.n)).Nodup):sortA [] (sortA [] l)=sortA [] l:=
 (sortA_uniq (sortA_nd h) (List.Perm.refl _) (sortA_rise l [] (by simp[RiseA]) (by simpa using h))).symm
mutual
theorem cont_idem:∀n:Node,ndN n→contN (contN n)=contN n
 | .mk k nm tx la ks,h=>by
  rw[ndN]at h
  rw[contN,contN,sortA_idem h.1,contL_idem ks h.2]
theorem contL_idem:∀ks:List Node,ndL ks→contL (contL ks)=contL ks
 | [],_=>by rw[contL,contL]
 | k::r,h=>by
  rw[ndL]at h
  rw[contL,contL,cont_idem k h.1,contL_idem r h.2]
end
theorem norm_kind (l:List Rule) (a:Node) (path:List Bytes) (f:Int) (h:(normN l a path f).2.1=0):(normN l a path f).1.kind=1∧(normN l a path f).1.name=a.name∧(normN l a path f).1.text= []:=by
 cases hfr:frontS l path with
 | true=>rw[normN_eq,if_pos hfr];exact⟨rfl,rfl,rfl⟩
 | false=>
  rw[normN_kids l a path f hfr]at h⊢
  cases hk:kidsP l path f a.kids (f+1) []with
  | inl e=>rw[hk]at h;exact absurd h (kidsP_err l path f a.kids _ _ e hk)
  | inr g=>exact⟨rfl,rfl,rfl⟩
theorem norm_form (l:List Rule) (a:Node) (path:List Bytes) (f:Int) (hfr:frontS l path=false) (h:(normN l a path f).2.1=0):
  (∀k∈a.kids,OkC l path k)∧(stK ((elK a.kids).map (itemV l path))).Nodup∧normN l a path f=(.mk 1 a.name [] (sortA [] a.attrs) (ndK (sortK ((elK a.kids).map (itemV l path)))),0,0):=by
 rw[normN_kids l a path f hfr]at h⊢
 cases hk:kidsP l path f a.kids (f+1) []with
 | inl e=>rw[hk]at h;exact absurd h (kidsP_err l path f a.kids _ _ e hk)
 | inr g=>
  obtain⟨h1,h2,h3⟩:=(kidsP_ok l path f a.kids (f+1) [] g (by simp[stK])).1 hk
  rw[List.nil_append]at h2 h3
  subst h3
  exact⟨h1,h2,rfl⟩
theorem elK_mem {ks:List Node} {k:Node} (h:k∈elK ks):k∈ks∧k.kind=1:=by
 unfold elK at h
 rw[List.mem_filter]at h
 exact⟨h.1,by simpa using h.2⟩
theorem sortK_idem {l:List (Step×Node)} (h:(stK l).Nodup):sortK (sortK l)=sortK l:=sortK_eq h (sortK_perm l)
theorem norm_idem (l:List Rule):∀(N:Nat) (n:Node) (path:List Bytes) (f f':Int),nsz n≤N→ndN n→(normN l n path f).2.1=0→normN l (normN l n path f).1 path f'=((normN l n path f).1,0,0):=by
 intro N
 induction N with
 | zero=>intro n path f f' hN;have:=nsz_pos n;omega
 | succ N ih=>
  intro n path f f' hN hd hc
  rw[ndN_eq]at hd
  cases hfr:frontS l path with
  | true=>
   rw[normN_eq l n,if_pos hfr]
   rw[normN_eq,if_pos hfr,mk_name,mk_attrs,mk_kids,sortA_idem hd.1,contL_idem _ hd.2]
  | false=>
   obtain⟨h1,h2,h3⟩:=norm_form l n path f hfr hc
   have hm:∀k∈n.kids,k.kind=1→itemV l path (itemV l path k).2=itemV l path k:=fun k hk k1=>by
    have hc':=((h1 k hk).2 k1).2.1
    have e:=ih k (path++ [k.name]) 0 0 (by have:=nsz_mem n k hk;omega) (ndL_mem _ k hd.2 hk) hc'
    obtain⟨e1,e2,e3⟩:=norm_kind l k (path++ [k.name]) 0 hc'
    have en:(itemV l path k).2.name=k.name:=e2
    unfold itemV at en⊢
    simp only at en⊢
    rw[en,e]
   have hi:∀y∈sortK ((elK n.kids).map (itemV l path)),itemV l path y.2=y∧OkC l path y.2∧y.2.kind=1:=fun y hy=>by
    obtain⟨k,hk,rfl⟩:=List.mem_map.1 ((sortK_perm _).mem_iff.1 hy)
    obtain⟨hk,k1⟩:=elK_mem hk
    have hok:=(h1 k hk).2 k1
    obtain⟨e1,e2,e3⟩:=norm_kind l k (path++ [k.name]) 0 hok.2.1
    have e:=ih k (path++ [k.name]) 0 0 (by have:=nsz_mem n k hk;omega) (ndL_mem _ k hd.2 hk) hok.2.1
    refine⟨hm k hk k1,⟨fun h=> ?_,fun _=> ?_⟩,e1⟩
    ·
     have:(itemV l path k).2.kind=1:=e1
     omega
    ·
     have en:(itemV l path k).2.name=k.name:=e2
     rw[en]
     refine⟨hok.1,?_,?_⟩
     ·
      show(normN l (normN l k (path++ [k.name]) 0).1 (path++ [k.name]) 0).2.1=0
      rw[e]
     ·
      show(keyS (normN l (normN l k (path++ [k.name]) 0).1 (path++ [k.name]) 0).1 _).isSome=true
      rw[e];exact hok.2.2
   rw[h3]
   have hp:stK (sortK ((elK n.kids).map (itemV l path)))=stK (sortK ((elK n.kids).map (itemV l path))):=rfl
   have hn:(stK (sortK ((elK n.kids).map (itemV l path)))).Nodup:=(List.Perm.map _ (sortK_perm _)).nodup_iff.2 h2
   generalize hG:sortK ((elK n.kids).map (itemV l path))=G at hi hn⊢
   have hS:sortK G=G:=by rw[←hG];exact sortK_idem h2
   have hel:elK (ndK G)=ndK G:=by
    unfold elK
    rw[List.filter_eq_self]
    intro a ha
    obtain⟨y,hy,rfl⟩:=List.mem_map.1 ha
    simpa using (hi y hy).2.2
   have hmap:(elK (ndK G)).map (itemV l path)=G:=by
    rw[hel]
    unfold ndK
    rw[List.map_map]
    conv=>rhs;rw[←List.map_id G]
    exact List.map_congr_left fun y hy=>(hi y hy).1
   have hk2:kidsP l path f' (ndK G) (f'+1) []= .inr G:=by
    refine(kidsP_ok l path f' _ (f'+1) [] _ (by simp[stK])).2 ⟨fun x hx=> ?_,?_,?_⟩
    ·
     obtain⟨y,hy,rfl⟩:=List.mem_map.1 hx
     exact(hi y hy).2.1
    ·
     rw[List.nil_append,hmap];exact hn
    ·
     rw[List.nil_append,hmap]
   rw[normN_kids l _ path f' hfr,mk_name,mk_attrs,mk_kids,hk2,sortA_idem hd.1]
   unfold outK
   simp only[hS]
theorem attE_sort {la:List Attr} (h:attE la=true):attE (sortA [] la)=true:=by
 have hp:=sortA_perm' la []
 rw[List.nil_append]at hp
 unfold attE at h⊢
 rw[Bool.and_eq_true,decide_eq_true_eq]at h⊢
 exact⟨sortA_nd h.1,by rw[List.all_eq_true]at h⊢;exact fun a ha=>h.2 a (hp.mem_iff.1 ha)⟩
theorem cont_kind (n:Node):(contN n).kind=n.kind∧(contN n).name=n.name∧(contN n).text=n.text:=by cases n;rw[contN];exact⟨rfl,rfl,rfl⟩
theorem sortA_none:sortA [] []= []:=by rw[sortA]
theorem contL_none:contL []= []:=by rw[contL]
mutual
theorem cont_fair:∀n:Node,fairE n=true→fairE (contN n)=true
 | .mk k nm tx la ks,h=>by
  rw[fairE]at h
  rw[contN,fairE]
  split at h
  ·
   rename_i hk
   rw[if_pos hk]
   rw[Bool.and_eq_true,Bool.and_eq_true]at h
   rw[h.1.1,attE_sort h.1.2,contL_fair ks 0 h.2];rfl
  ·
   rename_i hk
   rw[if_neg hk]
   simp only[Bool.and_eq_true,decide_eq_true_eq]at h
   obtain⟨⟨h1,h2⟩,h3⟩:=h
   subst h1 h2
   rw[h3,sortA_none,contL_none];rfl
theorem contL_fair:∀(ks:List Node) (w:Int),kidE ks w=true→kidE (contL ks) w=true
 | [],_,_=>by rw[contL,kidE]
 | k::r,w,h=>by
  rw[kidE,Bool.and_eq_true,Bool.and_eq_true]at h
  rw[contL,kidE,cont_fair k h.1.1,(cont_kind k).1,h.1.2,contL_fair r _ h.2];rfl
end
theorem kidE_els:∀(ks:List Node) (w:Int),(∀k∈ks,fairE k=true∧k.kind=1)→kidE ks w=true
 | [],_,_=>by rw[kidE]
 | k::r,w,h=>by
  obtain⟨h1,h2⟩:=h k (List.mem_cons_self ..)
  rw[kidE,h1,h2,kidE_els r 1 fun x hx=>h x (List.mem_cons_of_mem _ hx)]
  simp
theorem norm_fair2 (l:List Rule):∀(N:Nat) (n:Node) (path:List Bytes) (f:Int),nsz n≤N→fairE n=true→n.kind=1→(normN l n path f).2.1=0→fairE (normN l n path f).1=true:=by
 intro N
 induction N with
 | zero=>intro n path f hN;have:=nsz_pos n;omega
 | succ N ih=>
  intro n path f hN hf hk1 hc
  rw[fairE_eq,if_pos hk1,Bool.and_eq_true,Bool.and_eq_true,Bool.and_eq_true]at hf
  obtain⟨⟨⟨a1,a2⟩,a3⟩,a4⟩:=hf
  cases hfr:frontS l path with
  | true=>
   rw[normN_eq,if_pos hfr,fairE,if_pos rfl,a1,attE_sort a3,contL_fair _ _ a4];rfl
  | false=>
   obtain⟨h1,h2,h3⟩:=norm_form l n path f hfr hc
   rw[h3,fairE,if_pos rfl,a1,attE_sort a3,kidE_els]
   ·
    rfl
   ·
    intro x hx
    obtain⟨y,hy,rfl⟩:=List.mem_map.1 hx
    obtain⟨k,hk,rfl⟩:=List.mem_map.1 ((sortK_perm _).mem_iff.1 hy)
    obtain⟨hk,k1⟩:=elK_mem hk
    have hok:=(h1 k hk).2 k1
    exact⟨ih k _ 0 (by have:=nsz_mem n k hk;omega) (kidE_mem _ _ k a4 hk) k1 hok.2.1,(norm_kind l k _ 0 hok.2.1).1⟩
theorem nr_idem (l:List Rule) (n x:Node) (h:nrP l n= .inr x):nrP l x= .inr x∧fairE x=true∧x.kind=1∧cntN x≤cntN n:=by
 unfold nrP at h
 split at h
 ·
  cases h
 ·
  rename_i h1
  split at h
  ·
   cases h
  ·
   rename_i h2
   split at h
   ·
    cases h
   ·
    rename_i h3
    obtain⟨hk,hf⟩:=Classical.not_not.1 h2
    unfold elP at h
    split at h
    ·
     rename_i hc
     have hx:=Sum.inr.inj h
     obtain⟨e1,e2,e3⟩:=norm_kind l n _ 0 hc
     have hi:=norm_idem l (nsz n) n (l.getD 0 noRule).path 0 0 (Nat.le_refl _) (fair_nd n hf) hc
     have hfx:=norm_fair2 l (nsz n) n (l.getD 0 noRule).path 0 (Nat.le_refl _) hf hk hc
     have hcn:=cnt_normN l n (l.getD 0 noRule).path 0
     rw[hx]at hi hfx hcn e1 e2
     refine⟨?_,hfx,e1,hcn⟩
     unfold nrP
     rw[if_neg h1,if_neg (fun e=>e ⟨e1,hfx⟩),e2,if_neg h3]
     unfold elP
     rw[hi];rfl
    ·
     cases h
theorem exec_saddL {ev:Operand→Value} {oi:Oper} {x y:Operand} {u:TypeId} {s:Bytes} (ho:oi.op= .binOp .add 9 x y u) (hx:ev x= .string (bs [])) (hy:ev y= .string (bs s)) (h:s.length≤16777216) (W:World):(execOp ev oi).run Tryz.prog W= .ok (.value (.string (bs s))) W:=by
 have h1:¬9223372036854775807< (bs []).size+(bs s).size:=by rw[bs_size,bs_size];simp;omega
 simp only[execOp,ho,hx,hy]
 simp[go_sem,h1,bs_append]
theorem exec_saddR {ev:Operand→Value} {oi:Oper} {x y:Operand} {u:TypeId} {s:Bytes} (ho:oi.op= .binOp .add 9 x y u) (hx:ev x= .string (bs s)) (hy:ev y= .string (bs [])) (h:s.length≤16777216) (W:World):(execOp ev oi).run Tryz.prog W= .ok (.value (.string (bs s))) W:=by
 have h1:¬9223372036854775807< (bs s).size+(bs []).size:=by rw[bs_size,bs_size];simp;omega
 simp only[execOp,ho,hx,hy]
 simp[go_sem,h1,bs_append]
theorem misc_nil (w:World):Calls Tryz.prog 59 #[.slice none 0 0] w fun e w'=>e= .returned (.bool true)∧Ext w w':=by
 go_enter Tryz.func59,Tryz.ntmps59
 go_wp2_with fail
 refine wp_loop_rounds 1 ?_
 rw[rounds_succ]
 go_wp2_with fail
 go_ret
 exact⟨rfl,Ext.refl _⟩
theorem txtL_one (n:Node):txtL [n]=txtN n:=by rw[txtL,txtL,List.append_nil]
theorem txtL_cnt (n:Node):(txtL [n]).length≤12*cntN n:=by rw[txtL_one];exact txtN_le n
theorem parts_cnt (n:Node):n.name.length≤cntN n∧n.text.length≤cntN n:=by cases n;rw[cntN];simp only[Node.name,Node.text];omega
theorem cntL_one (n:Node):cntL [n]=cntN n:=by rw[cntL,cntL,Nat.add_zero]
theorem written_any (n:Node) (p:Nat→Prop) (va vk:Value) (w:World) (hva:Rep w p va (attrsD n.attrs)) (hvk:Rep w p vk (nodesD n.kids)) (hcnt:cntN n≤65536):
  Calls Tryz.prog 28 #[.agg #[.slice none 0 0,.int .i64 n.kind,.string (bs n.name),.string (bs n.text),va,vk,.slice none 0 0]] w fun e w'=>e= .returned (.string (bs (txtL [n])))∧Ext w w':=by
 obtain⟨xa,xac,rfl,_,_⟩:=hva.count z_attr (by omega)
 obtain⟨xk,xkc,rfl,_,_⟩:=hvk.count z_node (by omega)
 obtain⟨w1,hw1⟩:∃X,w.alloc (.cells #[.slice none 0 0,.int .i64 n.kind,.string (bs n.name),.string (bs n.text),.slice xa n.attrs.length xac,.slice xk n.kids.length xkc,.slice none 0 0] 39)=X:=⟨_,rfl⟩
 obtain⟨t1,ht1⟩:∃t,w.heap.size=t:=⟨_,rfl⟩
 have hE1:Ext w w1:=by rw[←hw1];exact(Ext.refl w).alloc _
 have hb1:w1.heap[t1]? =some (.cells #[.slice none 0 0,.int .i64 n.kind,.string (bs n.name),.string (bs n.text),.slice xa n.attrs.length xac,.slice xk n.kids.length xkc,.slice none 0 0] 39 (0,0)):=by rw[←hw1,←ht1];exact Array.getElem?_push_size ..
 have d0:=blk_cell hb1 (k:=0) rfl;have d1:=blk_cell hb1 (k:=1) rfl;have d2:=blk_cell hb1 (k:=2) rfl;have d3:=blk_cell hb1 (k:=3) rfl;have d4:=blk_cell hb1 (k:=4) rfl;have d5:=blk_cell hb1 (k:=5) rfl;have d6:=blk_cell hb1 (k:=6) rfl
 have hld:=blk_lt hb1
 have hXl:=txtL_cnt n
 have hpc:=parts_cnt n
 have HN0:=Lh fun W (hE:Ext w1 W)=>nodesX_any [] p (.slice none 0 0) W (by rw[cntL];omega) (by rw[txtL];simp) (.nil 5)
 have HN1:=Lh fun W (hE:Ext w1 W)=>nodeX_any n p _ _ W (by rw[cntL_one];omega) (by omega) (by omega) (by omega) ((hva.ext hE1).ext hE) ((hvk.ext hE1).ext hE)
 rw[show txtL []= [] by rw[txtL]]at HN0
 obtain⟨X,hX⟩:∃X,txtL [n]=X:=⟨_,rfl⟩
 rw[hX]at HN1 hXl⊢
 replace hXl:X.length≤16777216:=by omega
 have HE1:=Lh hE1
 obtain⟨wz,hwz⟩:∃wz,wz=w1:=⟨_,rfl⟩
 subst hwz
 clear hva hvk hb1 hE1 hpc hX hcnt
 go_enter Tryz.func28,Tryz.ntmps28
 go_wp2_with fail
 try rw[ht1]
 try rw[hw1]
 clear hw1
 refine rg_begin (S:=Sx wz) (by kernel_rfl) (Sx.begin _) ?_
 have hS:Sx wz (World.drew wz):=(Sx.begin _)
 refine rg_t 0 (some 3) (.pointer (some ⟨t1,0,none⟩)) rfl hS (fun w' hs=>by first | rfl | go_simp) ?_
 simp only[Act.put,sA,sZ,sS]
 refine rg_t 1 (some 4) (.slice none 0 0) rfl hS (fun w' hs=>by(have h0:=hs.cell hld d0;go_simp)) ?_
 simp only[Act.put,sA,sZ,sS]
 refine rg_t 3 (some 6) (.pointer (some ⟨t1,1,none⟩)) rfl hS (fun w' hs=>by first | rfl | go_simp) ?_
 simp only[Act.put,sA,sZ,sS]
 refine rg_t 4 (some 7) (.agg #[.int .i64 n.kind,.string (bs n.name),.string (bs n.text),.slice xa n.attrs.length xac,.slice xk n.kids.length xkc]) rfl hS (fun w' hs=>by(have h0:=hs.cell hld d1;have h1:=hs.cell hld d2;have h2:=hs.cell hld d3;have h3:=hs.cell hld d4;have h4:=hs.cell hld d5;go_simp)) ?_
 simp only[Act.put,sA,sZ,sS]
 refine rg_t 7 (some 10) (.pointer (some ⟨t1,6,none⟩)) rfl hS (fun w' hs=>by first | rfl | go_simp) ?_
 simp only[Act.put,sA,sZ,sS]
 refine rg_t 8 (some 11) (.slice none 0 0) rfl hS (fun w' hs=>by(have h0:=hs.cell hld d6;go_simp)) ?_
 simp only[Act.put,sA,sZ,sS]
 refine rg_call 2 (some 5) 31 #[.slice none 0 0] rfl rfl (by kernel_rfl) (by rfl) (fun w'=>by first | rfl | go_simp) (R:=fun v w'=>v= .string (bs [])∧Ext (World.drew wz) w') ?_ ?_
 ·
  refine(HN0.out (World.drew wz) (show Ext wz (World.drew wz) from hS)).mono ?_
  rintro e w' ⟨rfl,h⟩
  exact⟨_,rfl,rfl,h⟩
 rintro _ wr1 ⟨rfl,hBr1⟩
 have hS1:=hS.ext hBr1
 refine⟨hS1,?_⟩
 simp only[Act.put,sA,sZ,sS]
 refine rg_call 5 (some 8) 14 #[.agg #[.int .i64 n.kind,.string (bs n.name),.string (bs n.text),.slice xa n.attrs.length xac,.slice xk n.kids.length xkc]] rfl rfl (by kernel_rfl) (by rfl) (fun w'=>by first | rfl | go_simp) (R:=fun v w'=>v= .string (bs X)∧Ext wr1 w') ?_ ?_
 ·
  refine(HN1.out wr1 (show Ext wz wr1 from hS1)).mono ?_
  rintro e w' ⟨rfl,h⟩
  exact⟨_,rfl,rfl,h⟩
 rintro _ wr2 ⟨rfl,hBr2⟩
 have hS2:=hS1.ext hBr2
 refine⟨hS2,?_⟩
 simp only[Act.put,sA,sZ,sS]
 refine rg_t 6 (some 9) (.string (bs X)) rfl hS2 (fun w' hs=>by exact exec_saddL rfl rfl rfl hXl _) ?_
 simp only[Act.put,sA,sZ,sS]
 refine rg_call 9 (some 12) 31 #[.slice none 0 0] rfl rfl (by kernel_rfl) (by rfl) (fun w'=>by first | rfl | go_simp) (R:=fun v w'=>v= .string (bs [])∧Ext wr2 w') ?_ ?_
 ·
  refine(HN0.out wr2 (show Ext wz wr2 from hS2)).mono ?_
  rintro e w' ⟨rfl,h⟩
  exact⟨_,rfl,rfl,h⟩
 rintro _ wr3 ⟨rfl,hBr3⟩
 have hS3:=hS2.ext hBr3
 refine⟨hS3,?_⟩
 simp only[Act.put,sA,sZ,sS]
 refine rg_t 10 (some 13) (.string (bs X)) rfl hS3 (fun w' hs=>by exact exec_saddR rfl rfl rfl hXl _) ?_
 simp only[Act.put,sA,sZ,sS]
 refine rg_t 11 (some 2) (.string (bs X)) rfl hS3 (fun w' hs=>by rfl) ?_
 simp only[Act.put,sA,sZ,sS]
 refine rg_done (by kernel_rfl) ?_
 have HS:=Lh (show Ext wz wr3 from hS3)
 clear HN0 HN1
 go_wp2_with fail
 go_ret
 exact⟨rfl,HE1.out.trans HS.out⟩
theorem may_doc (n:Node) (p:Nat→Prop) (va vk:Value) (w:World) (hva:Rep w p va (attrsD n.attrs)) (hvk:Rep w p vk (nodesD n.kids)) (hcnt:cntN n≤2000) (hE:EN w) (hk:n.kind=1) (hf:fairE n=true) (B:Bool) (hB:decide (depN n≤32)=B):
  Calls Tryz.prog 25 #[.agg #[.slice none 0 0,.int .i64 n.kind,.string (bs n.name),.string (bs n.text),va,vk,.slice none 0 0]] w fun e w'=>e= .returned (.bool B)∧Ext w w':=by
 obtain⟨xa,xac,rfl,_,_⟩:=hva.count z_attr (by omega)
 obtain⟨xk,xkc,rfl,_,_⟩:=hvk.count z_node (by omega)
 obtain⟨w1,hw1⟩:∃X,w.alloc (.cells #[.slice none 0 0,.int .i64 n.kind,.string (bs n.name),.string (bs n.text),.slice xa n.attrs.length xac,.slice xk n.kids.length xkc,.slice none 0 0] 39)=X:=⟨_,rfl⟩
 obtain⟨t1,ht1⟩:∃t,w.heap.size=t:=⟨_,rfl⟩
 have hE1:Ext w w1:=by rw[←hw1];exact(Ext.refl w).alloc _
 have hb1:w1.heap[t1]? =some (.cells #[.slice none 0 0,.int .i64 n.kind,.string (bs n.name),.string (bs n.text),.slice xa n.attrs.length xac,.slice xk n.kids.length xkc,.slice none 0 0] 39 (0,0)):=by rw[←hw1,←ht1];exact Array.getElem?_push_size ..
 have d0:=blk_cell hb1 (k:=0) rfl;have d1:=blk_cell hb1 (k:=1) rfl;have d2:=blk_cell hb1 (k:=2) rfl;have d3:=blk_cell hb1 (k:=3) rfl;have d4:=blk_cell hb1 (k:=4) rfl;have d5:=blk_cell hb1 (k:=5) rfl;have d6:=blk_cell hb1 (k:=6) rfl
 have hld:=blk_lt hb1
 have hXl:=txtL_cnt n
 have hcn:=nodesN_cnt n
 have HF:=Lh fun W (hX:Ext w1 W)=>fairF_any (nsz n+1) n _ _ p W (Nat.lt_succ_self _) (by omega) ((hE.ext hE1).ext hX) ((hva.ext hE1).ext hX) ((hvk.ext hE1).ext hX)
 have HCN:=Lh fun W (hX:Ext w1 W)=>xcount_any (nsz n) n p _ _ W (Nat.le_refl _) (by omega) ((hva.ext hE1).ext hX) ((hvk.ext hE1).ext hX)
 have HDP:=Lh fun W (hX:Ext w1 W)=>xdepth_any (nsz n) n p _ _ W (Nat.le_refl _) (by omega) ((hva.ext hE1).ext hX) ((hvk.ext hE1).ext hX)
 have HWR:=Lh fun W (hX:Ext w1 W)=>written_any n p _ _ W ((hva.ext hE1).ext hX) ((hvk.ext hE1).ext hX) (by omega)
 simp only[hf]at HF
 obtain⟨X,hX⟩:∃X,txtL [n]=X:=⟨_,rfl⟩
 obtain⟨C,hC⟩:∃C,nodesN n=C:=⟨_,rfl⟩
 obtain⟨D,hD⟩:∃D,depN n=D:=⟨_,rfl⟩
 simp only[hX]at HWR hXl
 simp only[hC]at HCN hcn
 simp only[hD]at HDP hB
 have hXI:((bs X).size:Int)≤65536:=by rw[bs_size];omega
 have hCI:(C:Int)≤4096:=by omega
 have hC2:C≤4096:=by omega
 have HE1:=Lh hE1
 have HB:=Lh hb1
 have hkI:((n.kind:Int) !=1)=false:=by rw[hk];rfl
 clear hva hvk hE1 hX hC hD hE hXl hcn hcnt hf hk hb1
 go_enter Tryz.func25,Tryz.ntmps25
 go_wp2_with fail
 try rw[ht1]
 try rw[hw1]
 refine(HF.out w1 (Ext.refl _)).mono ?_
 rintro e w2 ⟨rfl,hX2⟩
 have hb2:=(Below.block hX2 t1 hld).trans HB.out
 have e0:=blk_cell hb2 (k:=0) rfl;have e6:=blk_cell hb2 (k:=6) rfl
 go_wp2_with fail
 refine(misc_nil w2).mono ?_
 rintro e w3 ⟨rfl,hX3⟩
 have hb3:=(Below.block hX3 t1 (blk_lt hb2)).trans hb2
 have g6:=blk_cell hb3 (k:=6) rfl
 go_wp2_with fail
 refine(misc_nil w3).mono ?_
 rintro e w4 ⟨rfl,hX4⟩
 have hb4:=(Below.block hX4 t1 (blk_lt hb3)).trans hb3
 have HX4:=Lh ((hX2.trans hX3).trans hX4)
 have HB4:=Lh hb4
 clear d0 d1 d2 d3 d4 d5 d6 e0 e6 g6 hb2 hb3 hb4 hX2 hX3 hX4 hld hw1
 have d0:=blk_cell HB4.out (k:=0) rfl;have d1:=blk_cell HB4.out (k:=1) rfl;have d2:=blk_cell HB4.out (k:=2) rfl;have d3:=blk_cell HB4.out (k:=3) rfl;have d4:=blk_cell HB4.out (k:=4) rfl;have d5:=blk_cell HB4.out (k:=5) rfl;have d6:=blk_cell HB4.out (k:=6) rfl
 have hld:=blk_lt HB4.out
 replace HCN:=Lh fun W (hX:Ext w4 W)=>HCN.out W (HX4.out.trans hX)
 obtain⟨wz,hwz⟩:∃wz,wz=w4:=⟨_,rfl⟩
 subst hwz
 go_wp2_with fail
 refine rg_begin (S:=Sx wz) (by kernel_rfl) (Sx.begin _) ?_
 have hS:Sx wz (World.drew wz):=(Sx.begin _)
 refine rg_t 0 (some 26) (.pointer (some ⟨t1,1,none⟩)) rfl hS (fun w' hs=>by first | rfl | go_simp) ?_
 simp only[Act.put,sA,sZ,sS]
 refine rg_t 1 (some 27) (.agg #[.int .i64 n.kind,.string (bs n.name),.string (bs n.text),.slice xa n.attrs.length xac,.slice xk n.kids.length xkc]) rfl hS (fun w' hs=>by(have h0:=hs.cell hld d1;have h1:=hs.cell hld d2;have h2:=hs.cell hld d3;have h3:=hs.cell hld d4;have h4:=hs.cell hld d5;go_simp)) ?_
 simp only[Act.put,sA,sZ,sS]
 refine rg_t 3 (some 29) (.pointer (some ⟨t1,0,none⟩)) rfl hS (fun w' hs=>by first | rfl | go_simp) ?_
 simp only[Act.put,sA,sZ,sS]
 refine rg_t 4 (some 30) (.slice none 0 0) rfl hS (fun w' hs=>by(have h0:=hs.cell hld d0;go_simp)) ?_
 simp only[Act.put,sA,sZ,sS]
 refine rg_t 5 (some 31) (.int .i64 0) rfl hS (fun w' hs=>by first | rfl | go_simp) ?_
 simp only[Act.put,sA,sZ,sS]
 refine rg_t 7 (some 33) (.pointer (some ⟨t1,6,none⟩)) rfl hS (fun w' hs=>by first | rfl | go_simp) ?_
 simp only[Act.put,sA,sZ,sS]
 refine rg_t 8 (some 34) (.slice none 0 0) rfl hS (fun w' hs=>by(have h0:=hs.cell hld d6;go_simp)) ?_
 simp only[Act.put,sA,sZ,sS]
 refine rg_t 9 (some 35) (.int .i64 0) rfl hS (fun w' hs=>by first | rfl | go_simp) ?_
 simp only[Act.put,sA,sZ,sS]
 refine rg_call 2 (some 28) 60 #[.agg #[.int .i64 n.kind,.string (bs n.name),.string (bs n.text),.slice xa n.attrs.length xac,.slice xk n.kids.length xkc]] rfl rfl (by kernel_rfl) (by rfl) (fun w'=>by first | rfl | go_simp) (R:=fun v w'=>v= .int .i64 (C:Nat)∧Ext (World.drew wz) w') ?_ ?_
 ·
  refine(HCN.out (World.drew wz) (show Ext wz (World.drew wz) from hS)).mono ?_
  rintro e w' ⟨rfl,h⟩
  exact⟨_,rfl,rfl,h⟩
 rintro _ wr1 ⟨rfl,hBr1⟩
 have hS1:=hS.ext hBr1
 refine⟨hS1,?_⟩
 simp only[Act.put,sA,sZ,sS]
 refine rg_t 6 (some 32) (.int .i64 (C+0:Nat)) rfl hS1 (fun w' hs=>by exact exec_add (i:=C) (j:=0) rfl rfl rfl (by omega) _) ?_
 simp only[Act.put,sA,sZ,sS]
 refine rg_t 10 (some 36) (.int .i64 (C+0+0:Nat)) rfl hS1 (fun w' hs=>by exact exec_add (i:=C+0) (j:=0) rfl rfl rfl (by omega) _) ?_
 simp only[Act.put,sA,sZ,sS]
 refine rg_t 11 (some 3) (.int .i64 (C+0+0:Nat)) rfl hS1 (fun w' hs=>by rfl) ?_
 simp only[Act.put,sA,sZ,sS]
 refine rg_done (by kernel_rfl) ?_
 have HX5:=Lh (HX4.out.trans (show Ext wz wr1 from hS1))
 have hb5:=(Below.block (show Ext wz wr1 from hS1) t1 hld).trans HB4.out
 have HB5:=Lh hb5
 clear d0 d1 d2 d3 d4 d5 d6 hb5 hld HB4 HX4 hS hS1 hBr1 HCN
 have d0:=blk_cell HB5.out (k:=0) rfl;have d1:=blk_cell HB5.out (k:=1) rfl;have d2:=blk_cell HB5.out (k:=2) rfl;have d3:=blk_cell HB5.out (k:=3) rfl;have d4:=blk_cell HB5.out (k:=4) rfl;have d5:=blk_cell HB5.out (k:=5) rfl;have d6:=blk_cell HB5.out (k:=6) rfl
 go_wp2_with fail
 refine(HDP.out wr1 HX5.out).mono ?_
 rintro e w6 ⟨rfl,hX6⟩
 have hb6:=(Below.block hX6 t1 (blk_lt HB5.out)).trans HB5.out
 have HX6:=Lh (HX5.out.trans hX6)
 clear d0 d1 d2 d3 d4 d5 d6
 have d0:=blk_cell hb6 (k:=0) rfl;have d1:=blk_cell hb6 (k:=1) rfl;have d2:=blk_cell hb6 (k:=2) rfl;have d3:=blk_cell hb6 (k:=3) rfl;have d4:=blk_cell hb6 (k:=4) rfl;have d5:=blk_cell hb6 (k:=5) rfl;have d6:=blk_cell hb6 (k:=6) rfl
 clear hb6 hX6
 by_cases hDb:D≤32
 ·
  have hDI:(D:Int)≤32:=by omega
  obtain rfl:true=B:=by rw[←hB,decide_eq_true hDb]
  go_wp2_with fail
  refine(HWR.out w6 HX6.out).mono ?_
  rintro e w7 ⟨rfl,hX7⟩
  have HX7:=Lh (HX6.out.trans hX7)
  clear hX7
  go_wp2_with fail
  go_ret
  exact⟨rfl,HE1.out.trans HX7.out⟩
 ·
  have hDI:¬(D:Int)≤32:=by omega
  obtain rfl:false=B:=by rw[←hB,decide_eq_false hDb]
  go_wp2_with fail
  go_ret
  exact⟨rfl,HE1.out.trans HX6.out⟩
def DocR (W:World) (n:Node) (e:Ending) (w':World):Prop:=if depN n≤32 then e= .returned (.tuple #[.string (bs (txtL [n])),.nilIface])else∃v,e= .returned (.tuple #[.string ⟨#[]⟩,v])∧ErrV w' W.heap.size 80 0 v
theorem doc_any (n:Node) (p:Nat→Prop) (va vk:Value) (w:World) (hva:Rep w p va (attrsD n.attrs)) (hvk:Rep w p vk (nodesD n.kids)) (hcnt:cntN n≤2000) (hE:EN w) (hk:n.kind=1) (hf:fairE n=true):
  Calls Tryz.prog 10 #[.agg #[.slice none 0 0,.int .i64 n.kind,.string (bs n.name),.string (bs n.text),va,vk,.slice none 0 0]] w fun e w'=>DocR w n e w'∧Ext w w':=by
 obtain⟨xa,xac,rfl,_,_⟩:=hva.count z_attr (by omega)
 obtain⟨xk,xkc,rfl,_,_⟩:=hvk.count z_node (by omega)
 obtain⟨w1,hw1⟩:∃X,w.alloc (.cells #[.slice none 0 0,.int .i64 n.kind,.string (bs n.name),.string (bs n.text),.slice xa n.attrs.length xac,.slice xk n.kids.length xkc,.slice none 0 0] 39)=X:=⟨_,rfl⟩
 obtain⟨t1,ht1⟩:∃t,w.heap.size=t:=⟨_,rfl⟩
 have hE1:Ext w w1:=by rw[←hw1];exact(Ext.refl w).alloc _
 have hb1:w1.heap[t1]? =some (.cells #[.slice none 0 0,.int .i64 n.kind,.string (bs n.name),.string (bs n.text),.slice xa n.attrs.length xac,.slice xk n.kids.length xkc,.slice none 0 0] 39 (0,0)):=by rw[←hw1,←ht1];exact Array.getElem?_push_size ..
 have d0:=blk_cell hb1 (k:=0) rfl;have d1:=blk_cell hb1 (k:=1) rfl;have d2:=blk_cell hb1 (k:=2) rfl;have d3:=blk_cell hb1 (k:=3) rfl;have d4:=blk_cell hb1 (k:=4) rfl;have d5:=blk_cell hb1 (k:=5) rfl;have d6:=blk_cell hb1 (k:=6) rfl
 have hld:=blk_lt hb1
 have HM:=Lh (may_doc n p _ _ w1 (hva.ext hE1) (hvk.ext hE1) hcnt (hE.ext hE1) hk hf _ rfl)
 have HWR:=Lh fun W (hX:Ext w1 W)=>written_any n p _ _ W ((hva.ext hE1).ext hX) ((hvk.ext hE1).ext hX) (by omega)
 have HE1:=Lh hE1
 have HB:=Lh hb1
 clear hva hvk hE1 hE hf hk hb1
 by_cases hD:depN n≤32
 ·
  rw[decide_eq_true hD]at HM
  have HD:=Lh hD
  clear hD
  go_enter Tryz.func10,Tryz.ntmps10
  go_wp2_with fail
  try rw[ht1]
  try rw[hw1]
  refine HM.out.mono ?_
  rintro e w2 ⟨rfl,hX2⟩
  have hb2:=(Below.block hX2 t1 hld).trans HB.out
  have HX2:=Lh hX2
  clear d0 d1 d2 d3 d4 d5 d6 hw1
  have d0:=blk_cell hb2 (k:=0) rfl;have d1:=blk_cell hb2 (k:=1) rfl;have d2:=blk_cell hb2 (k:=2) rfl;have d3:=blk_cell hb2 (k:=3) rfl;have d4:=blk_cell hb2 (k:=4) rfl;have d5:=blk_cell hb2 (k:=5) rfl;have d6:=blk_cell hb2 (k:=6) rfl
  clear hb2 hX2
  go_wp2_with fail
  refine(HWR.out w2 HX2.out).mono ?_
  rintro e w3 ⟨rfl,hX3⟩
  have HX3:=Lh (HX2.out.trans hX3)
  clear hX3
  go_wp2_with fail
  go_ret2
  exact⟨by unfold DocR;rw[if_pos HD.out];rfl,HE1.out.trans HX3.out⟩
 ·
  rw[decide_eq_false hD]at HM
  have HD:=Lh hD
  clear hD
  go_enter Tryz.func10,Tryz.ntmps10
  go_wp2_with fail
  try rw[ht1]
  try rw[hw1]
  refine HM.out.mono ?_
  rintro e w2 ⟨rfl,hX2⟩
  have HX2:=Lh hX2
  clear d0 d1 d2 d3 d4 d5 d6 hw1 hX2
  go_wp2_with fail
  refine(new_any 80 0 (by decide) _).mono ?_
  rintro e w3 ⟨rfl,hw3⟩
  go_wp2_with fail
  refine(wrap_any _ _ _).mono ?_
  rintro e w4 ⟨rfl,hw4⟩
  go_wp2_with fail
  go_ret2
  subst hw3
  subst hw4
  refine⟨?_,(HE1.out.trans HX2.out).trans (((Ext.refl w2).alloc _).alloc _)⟩
  unfold DocR
  rw[if_neg HD.out]
  have hsz:=(HE1.out.trans HX2.out).size
  refine⟨_,rfl,_,w2.heap.size,rfl,by simp,by simp<;> omega,by simp[go_sem],?_,?_,Nat.le_trans hsz (by simp),hsz⟩
  ·
   exact((Ext.refl _).alloc _).keep (by simp) (by simp[go_sem])
  ·
   exact((Ext.refl _).alloc _).keep (by simp) (by simp[go_sem])
theorem tks_len {s:Bytes}:∀{l:List TokX} {p:Nat},TksR s p l→l.length≤s.length
 | l,p,h=>by
  have key:∀(l:List TokX) (p:Nat),TksR s p l→p+l.length≤s.length:=by
   intro l
   induction l with
   | nil=>intro p h;have:p=s.length:=h;simp;omega
   | cons t r ih=>
    rintro p ⟨e,h1,h2⟩
    have:=h1.gt
    have:=ih e h2
    simp only[List.length_cons];omega
  have:=key l p h
  omega
theorem attrsS_refl:∀l:List Attr,attrsS l l=true
 | []=>by unfold attrsS;rfl
 | a::x=>by unfold attrsS;simp[attrsS_refl x]
mutual
theorem sameN_refl:∀n:Node,sameN n n=true
 | .mk k nm tx la ks=>by
  rw[sameN]
  simp[attrsS_refl la,sameL_refl ks]
theorem sameL_refl:∀l:List Node,sameL l l=true
 | []=>by rw[sameL]
 | n::r=>by rw[sameL,sameN_refl n,sameL_refl r];rfl
end
theorem elP_code {l:List Rule} {n:Node} {path:List Bytes} {f:Int} {c:Int×Int} (h:elP l n path f= .inl c):c.1≠0:=by
 unfold elP at h
 split at h
 ·
  cases h
 ·
  rename_i h0
  cases h
  exact h0
theorem nrP_code {l:List Rule} {n:Node} {c:Int×Int} (h:nrP l n= .inl c):c.1≠0:=by
 unfold nrP at h
 split at h
 ·
  cases h;decide
 ·
  split at h
  ·
   cases h;decide
  ·
   split at h
   ·
    cases h;decide
   ·
    exact elP_code h
def isP (l:List Rule) (n:Node):Bool:=match nrP l n with
 | .inl _=>false
 | .inr m=>sameN m n
theorem is_any (l:List Rule) (hb:∀r∈l,r.path.length≤1048576∧r.keys.length≤1048576∧(∀x∈r.path,x.length≤1048576)∧∀x∈r.keys,x.length≤1048576) (hll:l.length≤1048576) (n:Node) (hcnt:cntN n≤1048576) (p q:Nat→Prop) (v va vk:Value) (w:World) (hT:EN w) (h:Rep w q v (rulesD l)) (hva:Rep w p va (attrsD n.attrs)) (hvk:Rep w p vk (nodesD n.kids)) (R:Bool) (hR:isP l n=R):
  Calls Tryz.prog 8 #[v,.agg #[.int .i64 n.kind,.string (bs n.name),.string (bs n.text),va,vk]] w fun e w'=>e= .returned (.bool R)∧Ext w w':=by
 obtain⟨la,lc,rfl,_,_⟩:=h.count z_rule (by omega)
 obtain⟨na,nac,rfl,_,_⟩:=hva.count z_attr (by omega)
 obtain⟨nk,nkc,rfl,_,_⟩:=hvk.count z_node (by omega)
 obtain⟨w1,hw1⟩:∃X,w.alloc (.cells #[.int .i64 n.kind,.string (bs n.name),.string (bs n.text),.slice na n.attrs.length nac,.slice nk n.kids.length nkc] 26)=X:=⟨_,rfl⟩
 obtain⟨t3,ht3⟩:∃t,w.heap.size=t:=⟨_,rfl⟩
 have hE1:Ext w w1:=by rw[←hw1];exact(Ext.refl w).alloc _
 have hb1:w1.heap[t3]? =some (.cells #[.int .i64 n.kind,.string (bs n.name),.string (bs n.text),.slice na n.attrs.length nac,.slice nk n.kids.length nkc] 26 (0,0)):=by rw[←hw1,←ht3];exact Array.getElem?_push_size ..
 have HN:=Lh (normal_any l hb hll n hcnt p q _ _ _ w1 (hT.ext hE1) (h.ext hE1) (hva.ext hE1) (hvk.ext hE1))
 have HV:=Lh (And.intro (hva.ext hE1) (hvk.ext hE1))
 have HB1:=Lh (And.intro hE1 hb1)
 have k0:=blk_cell hb1 (k:=0) rfl;have k1:=blk_cell hb1 (k:=1) rfl;have k2:=blk_cell hb1 (k:=2) rfl;have k3:=blk_cell hb1 (k:=3) rfl;have k4:=blk_cell hb1 (k:=4) rfl
 unfold isP at hR
 obtain⟨N,hN⟩:∃N,nrP l n=N:=⟨_,rfl⟩
 rw[hN]at HN hR
 clear h hva hvk hT hE1 hb1 hN
 go_enter Tryz.func8,Tryz.ntmps8
 go_wp2_with fail
 try rw[ht3]
 try rw[hw1]
 refine HN.out.mono ?_
 rintro e w4 ⟨hr,hX4⟩
 clear HN hw1 k0 k1 k2 k3 k4
 have hb4:=(Below.block hX4 t3 (blk_lt HB1.out.2)).trans HB1.out.2
 cases N with
 | inl c=>
  obtain⟨ev,rfl,hev⟩:=hr
  obtain⟨b1,b2,rfl,_⟩:=hev
  obtain rfl:false=R:=hR
  have hzv:zeroNV= .agg #[.int .i64 0,.string ⟨#[]⟩,.string ⟨#[]⟩,.slice none 0 0,.slice none 0 0]:=rfl
  rw[hzv]
  have HX4:=Lh (HB1.out.1.trans hX4)
  clear hzv hX4 hb4
  go_wp2_with fail
  go_ret
  exact⟨rfl,HX4.out.alloc _⟩
 | inr m=>
  obtain⟨xa,xk,rfl,hxa,hxk⟩:=hr
  obtain⟨ya,yac,rfl,_,_⟩:=hxa.count z_attr (by omega)
  obtain⟨yk,ykc,rfl,_,_⟩:=hxk.count z_node (by omega)
  obtain⟨w5,hw5⟩:∃X,w4.alloc (.cells #[.int .i64 m.kind,.string (bs m.name),.string (bs m.text),.slice ya m.attrs.length yac,.slice yk m.kids.length ykc] 26)=X:=⟨_,rfl⟩
  obtain⟨t5,ht5⟩:∃t,w4.heap.size=t:=⟨_,rfl⟩
  have hE5:Ext w4 w5:=by rw[←hw5];exact(Ext.refl w4).alloc _
  have hb5:w5.heap[t5]? =some (.cells #[.int .i64 m.kind,.string (bs m.name),.string (bs m.text),.slice ya m.attrs.length yac,.slice yk m.kids.length ykc] 26 (0,0)):=by rw[←hw5,←ht5];exact Array.getElem?_push_size ..
  replace hR:sameN m n=R:=hR
  have HS:=Lh (xsame_any (nsz m) m n (fun _=>True) (fun _=>True) _ _ _ _ w5 (Nat.le_refl _) ((hxa.ext hE5).ok fun _ _=>trivial) ((hxk.ext hE5).ok fun _ _=>trivial) (((HV.out.1.ext hX4).ext hE5).ok fun _ _=>trivial) (((HV.out.2.ext hX4).ext hE5).ok fun _ _=>trivial))
  rw[hR]at HS
  have hbA:=(Below.block hE5 t3 (blk_lt hb4)).trans hb4
  have y0:=blk_cell hb5 (k:=0) rfl;have y1:=blk_cell hb5 (k:=1) rfl;have y2:=blk_cell hb5 (k:=2) rfl;have y3:=blk_cell hb5 (k:=3) rfl;have y4:=blk_cell hb5 (k:=4) rfl
  have z0:=blk_cell hbA (k:=0) rfl;have z1:=blk_cell hbA (k:=1) rfl;have z2:=blk_cell hbA (k:=2) rfl;have z3:=blk_cell hbA (k:=3) rfl;have z4:=blk_cell hbA (k:=4) rfl
  have HX5:=Lh ((HB1.out.1.trans hX4).trans hE5)
  clear hxa hxk hX4 hE5 hb5 hb4 hbA hR
  go_wp2_with fail
  try rw[ht5]
  try rw[hw5]
  refine HS.out.mono ?_
  rintro e w6 ⟨rfl,hX6⟩
  go_wp2_with fail
  go_ret
  exact⟨rfl,HX5.out.trans hX6⟩
theorem nagain_walk (l:List Rule) (n:Node) (hb:∀r∈l,r.path.length≤1048576∧r.keys.length≤1048576∧(∀x∈r.path,x.length≤1048576)∧∀x∈r.keys,x.length≤1048576) (hll:l.length≤1048576) (hcnt:cntN n≤1048576) (p q:Nat→Prop) (v va vk:Value) (w:World) (hE:EN w) (hG:GlobE w)
  (h:Rep w q v (rulesD l)) (hva:Rep w p va (attrsD n.attrs)) (hvk:Rep w p vk (nodesD n.kids)):
  Calls Tryz.prog 3 #[v,.agg #[.int .i64 n.kind,.string (bs n.name),.string (bs n.text),va,vk]] w fun e w'=>e= .returned (.bool true)∧Ext w w':=by
 obtain⟨la,lc,rfl,_,_⟩:=h.count z_rule (by omega)
 obtain⟨na,nac,rfl,_,_⟩:=hva.count z_attr (by omega)
 obtain⟨nk,nkc,rfl,_,_⟩:=hvk.count z_node (by omega)
 obtain⟨w1,hw1⟩:∃X,w.alloc (.cells #[.int .i64 n.kind,.string (bs n.name),.string (bs n.text),.slice na n.attrs.length nac,.slice nk n.kids.length nkc] 26)=X:=⟨_,rfl⟩
 obtain⟨t3,ht3⟩:∃t,w.heap.size=t:=⟨_,rfl⟩
 have hE1:Ext w w1:=by rw[←hw1];exact(Ext.refl w).alloc _
 have hb1:w1.heap[t3]? =some (.cells #[.int .i64 n.kind,.string (bs n.name),.string (bs n.text),.slice na n.attrs.length nac,.slice nk n.kids.length nkc] 26 (0,0)):=by rw[←hw1,←ht3];exact Array.getElem?_push_size ..
 have HAW:=Lh (awake_any w1 (hE.ext hE1) (hG.ext hE1))
 have HH:=Lh (show∀W,Ext w W→EN W∧GlobE W∧Rep W q (.slice la l.length lc) (rulesD l)∧Rep W p (.slice na n.attrs.length nac) (attrsD n.attrs)∧Rep W p (.slice nk n.kids.length nkc) (nodesD n.kids) from fun W hX=>⟨hE.ext hX,hG.ext hX,h.ext hX,hva.ext hX,hvk.ext hX⟩)
 have HB1:=Lh (And.intro hE1 hb1)
 clear h hva hvk hE hG hE1 hb1
 go_enter Tryz.func3,Tryz.ntmps3
 go_wp2_with fail
 try rw[ht3]
 refine HAW.out.mono ?_
 rintro e w2 ⟨rfl,hX2⟩
 clear HAW hw1
 have HB2:=Lh (And.intro (HB1.out.1.trans hX2) ((Below.block hX2 t3 (blk_lt HB1.out.2)).trans HB1.out.2))
 have k0:=blk_cell HB2.out.2 (k:=0) rfl;have k1:=blk_cell HB2.out.2 (k:=1) rfl;have k2:=blk_cell HB2.out.2 (k:=2) rfl;have k3:=blk_cell HB2.out.2 (k:=3) rfl;have k4:=blk_cell HB2.out.2 (k:=4) rfl
 have HSM:=Lh (lawsmall_any l n _ _ _ w2 hcnt (HH.out w2 HB2.out.1).2.2.1 (HH.out w2 HB2.out.1).2.2.2.1 (HH.out w2 HB2.out.1).2.2.2.2)
 clear hX2 HB1
 go_wp2_with fail
 refine HSM.out.mono ?_
 rintro e w3 ⟨⟨b,rfl,hbs⟩,hX3⟩
 clear HSM
 have HB3:=Lh (And.intro (HB2.out.1.trans hX3) ((Below.block hX3 t3 (blk_lt HB2.out.2)).trans HB2.out.2))
 cases b with
 | false=>
  go_wp2_with fail
  go_ret
  exact⟨rfl,HB3.out.1⟩
 | true=>
  have hc2:cntN n≤2000:=hbs rfl
  clear k0 k1 k2 k3 k4 HB2 hX3 hbs
  have k0:=blk_cell HB3.out.2 (k:=0) rfl;have k1:=blk_cell HB3.out.2 (k:=1) rfl;have k2:=blk_cell HB3.out.2 (k:=2) rfl;have k3:=blk_cell HB3.out.2 (k:=3) rfl;have k4:=blk_cell HB3.out.2 (k:=4) rfl
  have HN3:=Lh (normal_any l hb hll n hcnt _ _ _ _ _ w3 (HH.out w3 HB3.out.1).1 (HH.out w3 HB3.out.1).2.2.1 (HH.out w3 HB3.out.1).2.2.2.1 (HH.out w3 HB3.out.1).2.2.2.2)
  obtain⟨R,hR⟩:∃R,nrP l n=R:=⟨_,rfl⟩
  rw[hR]at HN3
  have HR:=Lh hR
  clear hR
  go_wp2_with fail
  refine HN3.out.mono ?_
  rintro e w4 ⟨hr,hX4⟩
  clear HN3
  cases R with
  | inl c=>
   obtain⟨ev,rfl,hev⟩:=hr
   have hc0:=nrP_code HR.out
   have HEV:=Lh hev
   have hb4:=(Below.block hX4 t3 (blk_lt HB3.out.2)).trans HB3.out.2
   have HX4:=Lh (HB3.out.1.trans hX4)
   clear hev hX4 k0 k1 k2 k3 k4
   have hzv:zeroNV= .agg #[.int .i64 0,.string ⟨#[]⟩,.string ⟨#[]⟩,.slice none 0 0,.slice none 0 0]:=rfl
   rw[hzv]
   obtain⟨wA,hwA⟩:∃X,w4.alloc (.cells #[.int .i64 0,.string ⟨#[]⟩,.string ⟨#[]⟩,.slice none 0 0,.slice none 0 0] 26)=X:=⟨_,rfl⟩
   have hEA:Ext w4 wA:=by rw[←hwA];exact(Ext.refl w4).alloc _
   have HCO:=Lh (code_any c.1 c.2 _ ev wA (HH.out _ (HX4.out.trans hEA)).2.1 (HEV.out.ext hEA))
   obtain⟨cc,hcc⟩:∃z,c.1=z:=⟨_,rfl⟩
   rw[hcc]at HCO hc0
   have hcb:(cc !=0)=true:=by rw[bne_iff_ne];exact hc0
   have HXA:=Lh (HX4.out.trans hEA)
   have HBA:=Lh ((Below.block hEA t3 (blk_lt hb4)).trans hb4)
   have HWA:=Lh hwA
   clear hcc hzv hEA hb4 hwA
   go_wp2_with fail
   rw[HWA.out]
   refine HCO.out.mono ?_
   rintro e w5 ⟨rfl,hX5⟩
   have hb5:=(Below.block hX5 t3 (blk_lt HBA.out)).trans HBA.out
   have k0:=blk_cell hb5 (k:=0) rfl;have k1:=blk_cell hb5 (k:=1) rfl;have k2:=blk_cell hb5 (k:=2) rfl;have k3:=blk_cell hb5 (k:=3) rfl;have k4:=blk_cell hb5 (k:=4) rfl
   have HX5:=Lh (HXA.out.trans hX5)
   have HIS:=Lh (is_any l hb hll n hcnt _ _ _ _ _ w5 (HH.out w5 HX5.out).1 (HH.out w5 HX5.out).2.2.1 (HH.out w5 HX5.out).2.2.2.1 (HH.out w5 HX5.out).2.2.2.2 false (by unfold isP;rw[HR.out]))
   clear hb5 hX5 HCO HWA
   go_wp2_with fail
   refine HIS.out.mono ?_
   rintro e w6 ⟨rfl,hX6⟩
   go_wp2_with fail
   go_ret
   exact⟨rfl,HX5.out.trans hX6⟩
  | inr m=>
   obtain⟨xa,xk,rfl,hxa,hxk⟩:=hr
   obtain⟨ya,yac,rfl,_,_⟩:=hxa.count z_attr (by omega)
   obtain⟨yk,ykc,rfl,_,_⟩:=hxk.count z_node (by omega)
   obtain⟨hid1,hfm,hkm,hcm⟩:=nr_idem l n m HR.out
   have hcm2:cntN m≤2000:=by omega
   have hcm3:cntN m≤1048576:=by omega
   obtain⟨w5,hw5⟩:∃X,w4.alloc (.cells #[.int .i64 m.kind,.string (bs m.name),.string (bs m.text),.slice ya m.attrs.length yac,.slice yk m.kids.length ykc] 26)=X:=⟨_,rfl⟩
   obtain⟨t5,ht5⟩:∃t,w4.heap.size=t:=⟨_,rfl⟩
   have hE5:Ext w4 w5:=by rw[←hw5];exact(Ext.refl w4).alloc _
   have hb5:w5.heap[t5]? =some (.cells #[.int .i64 m.kind,.string (bs m.name),.string (bs m.text),.slice ya m.attrs.length yac,.slice yk m.kids.length ykc] 26 (0,0)):=by rw[←hw5,←ht5];exact Array.getElem?_push_size ..
   have HCO:=Lh (code_nil w5)
   have HB5:=Lh (And.intro (HB3.out.1.trans (hX4.trans hE5)) (And.intro hb5 (And.intro ((hxa.ext hE5).ok (q:=fun _=>True) fun _ _=>trivial) ((hxk.ext hE5).ok (q:=fun _=>True) fun _ _=>trivial))))
   have HM:=Lh (And.intro hid1 (And.intro hfm hkm))
   clear hX4 hE5 hb5 hxa hxk k0 k1 k2 k3 k4 HB3 hid1 hfm hkm
   go_wp2_with fail
   try rw[ht5]
   try rw[hw5]
   refine HCO.out.mono ?_
   rintro e w6 ⟨rfl,hX6⟩
   clear HCO hw5
   -- the normal form's normal form
   have hb6:=(Below.block hX6 t5 (blk_lt HB5.out.2.1)).trans HB5.out.2.1
   have HB6:=Lh (And.intro (HB5.out.1.trans hX6) (And.intro hb6 (And.intro (HB5.out.2.2.1.ext hX6) (HB5.out.2.2.2.ext hX6))))
   have k0:=blk_cell HB6.out.2.1 (k:=0) rfl;have k1:=blk_cell HB6.out.2.1 (k:=1) rfl;have k2:=blk_cell HB6.out.2.1 (k:=2) rfl;have k3:=blk_cell HB6.out.2.1 (k:=3) rfl;have k4:=blk_cell HB6.out.2.1 (k:=4) rfl
   have HN:=Lh (norm_ok l hb hll m m hcm3 HM.out.1 (fun _=>True) q _ _ _ w6 (HH.out w6 HB6.out.1).1 (HH.out w6 HB6.out.1).2.2.1 HB6.out.2.2.1 HB6.out.2.2.2)
   clear hX6 hb6 HB5
   go_wp2_with fail
   refine HN.out.mono ?_
   rintro e w7 ⟨za,zac,zk,zkc,rfl,hza,hzk,hX7⟩
   clear HN k0 k1 k2 k3 k4
   obtain⟨w8,hw8⟩:∃X,w7.alloc (.cells #[.int .i64 m.kind,.string (bs m.name),.string (bs m.text),.slice za m.attrs.length zac,.slice zk m.kids.length zkc] 26)=X:=⟨_,rfl⟩
   obtain⟨t7,ht7⟩:∃t,w7.heap.size=t:=⟨_,rfl⟩
   have hE8:Ext w7 w8:=by rw[←hw8];exact(Ext.refl w7).alloc _
   have hb8:w8.heap[t7]? =some (.cells #[.int .i64 m.kind,.string (bs m.name),.string (bs m.text),.slice za m.attrs.length zac,.slice zk m.kids.length zkc] 26 (0,0)):=by rw[←hw8,←ht7];exact Array.getElem?_push_size ..
   have hX8:=hX7.trans hE8
   have HB8:=Lh (And.intro (HB6.out.1.trans hX8) (And.intro ((Below.block hX8 t5 (blk_lt HB6.out.2.1)).trans HB6.out.2.1) (And.intro (HB6.out.2.2.1.ext hX8) (HB6.out.2.2.2.ext hX8))))
   have HC8:=Lh (And.intro hb8 (And.intro ((hza.ext hE8).ok (q:=fun _=>True) fun _ _=>trivial) ((hzk.ext hE8).ok (q:=fun _=>True) fun _ _=>trivial)))
   have HCO:=Lh (code_nil w8)
   clear hX7 hE8 hb8 hza hzk hX8 HB6
   go_wp2_with fail
   try rw[ht7]
   try rw[hw8]
   refine HCO.out.mono ?_
   rintro e w9 ⟨rfl,hX9⟩
   clear HCO hw8
   have HB9:=Lh (And.intro (HB8.out.1.trans hX9) (And.intro ((Below.block hX9 t5 (blk_lt HB8.out.2.1)).trans HB8.out.2.1) (And.intro (HB8.out.2.2.1.ext hX9) (HB8.out.2.2.2.ext hX9))))
   have hb9:=(Below.block hX9 t7 (blk_lt HC8.out.1)).trans HC8.out.1
   have k0:=blk_cell HB9.out.2.1 (k:=0) rfl;have k1:=blk_cell HB9.out.2.1 (k:=1) rfl;have k2:=blk_cell HB9.out.2.1 (k:=2) rfl;have k3:=blk_cell HB9.out.2.1 (k:=3) rfl;have k4:=blk_cell HB9.out.2.1 (k:=4) rfl
   have y0:=blk_cell hb9 (k:=0) rfl;have y1:=blk_cell hb9 (k:=1) rfl;have y2:=blk_cell hb9 (k:=2) rfl;have y3:=blk_cell hb9 (k:=3) rfl;have y4:=blk_cell hb9 (k:=4) rfl
   have HS:=Lh (same_any (nsz m) m m _ _ _ _ _ _ w9 (Nat.le_refl _) HB9.out.2.2.1 HB9.out.2.2.2 (HC8.out.2.1.ext hX9) (HC8.out.2.2.ext hX9))
   rw[sameN_refl]at HS
   clear hX9 hb9 HB8 HC8
   go_wp2_with fail
   refine HS.out.mono ?_
   rintro e w10 ⟨rfl,hX10⟩
   clear HS k0 k1 k2 k3 k4 y0 y1 y2 y3 y4
   have HB10:=Lh (And.intro (HB9.out.1.trans hX10) (And.intro ((Below.block hX10 t5 (blk_lt HB9.out.2.1)).trans HB9.out.2.1) (And.intro (HB9.out.2.2.1.ext hX10) (HB9.out.2.2.2.ext hX10))))
   have k0:=blk_cell HB10.out.2.1 (k:=0) rfl;have k1:=blk_cell HB10.out.2.1 (k:=1) rfl;have k2:=blk_cell HB10.out.2.1 (k:=2) rfl;have k3:=blk_cell HB10.out.2.1 (k:=3) rfl;have k4:=blk_cell HB10.out.2.1 (k:=4) rfl
   have HIS:=Lh (is_any l hb hll m hcm3 _ _ _ _ _ w10 (HH.out w10 HB10.out.1).1 (HH.out w10 HB10.out.1).2.2.1 HB10.out.2.2.1 HB10.out.2.2.2 true (by unfold isP;rw[HM.out.1];exact sameN_refl m))
   clear hX10 HB9
   go_wp2_with fail
   refine HIS.out.mono ?_
   rintro e w11 ⟨rfl,hX11⟩
   clear HIS k0 k1 k2 k3 k4
   -- written
   have HB11:=Lh (And.intro (HB10.out.1.trans hX11) (And.intro ((Below.block hX11 t5 (blk_lt HB10.out.2.1)).trans HB10.out.2.1) (And.intro (HB10.out.2.2.1.ext hX11) (HB10.out.2.2.2.ext hX11))))
   have k0:=blk_cell HB11.out.2.1 (k:=0) rfl;have k1:=blk_cell HB11.out.2.1 (k:=1) rfl;have k2:=blk_cell HB11.out.2.1 (k:=2) rfl;have k3:=blk_cell HB11.out.2.1 (k:=3) rfl;have k4:=blk_cell HB11.out.2.1 (k:=4) rfl
   have HDC:=Lh (doc_any m (fun _=>True) _ _ w11 HB11.out.2.2.1 HB11.out.2.2.2 hcm2 (HH.out w11 HB11.out.1).1 HM.out.2.2 HM.out.2.1)
   clear hX11 HB10
   go_wp2_with fail
   refine HDC.out.mono ?_
   rintro e w12 ⟨hdr,hX12⟩
   clear HDC k0 k1 k2 k3 k4
   have HB12:=Lh (And.intro (HB11.out.1.trans hX12) (And.intro ((Below.block hX12 t5 (blk_lt HB11.out.2.1)).trans HB11.out.2.1) (And.intro (HB11.out.2.2.1.ext hX12) (HB11.out.2.2.2.ext hX12))))
   unfold DocR at hdr
   by_cases hD:depN m≤32
   ·
    rw[if_pos hD]at hdr
    subst hdr
    have HCO:=Lh (code_nil w12)
    have hXl:=txtL_cnt m
    obtain⟨r1,r2,r3,r4⟩:=root_toks m HM.out.2.2 HM.out.2.1
    have hnd:=nodesN_cnt m
    have hfr:=fold_root m HM.out.2.2 HM.out.2.1 hD (by omega) (by omega)
    rw[txtL_one]at hXl⊢
    have htl:=tks_len r4
    obtain⟨X,hX⟩:∃X,txtN m=X:=⟨_,rfl⟩
    rw[hX]at r1 r2 r3 r4 hXl htl⊢
    have HP0:=Lh (show∀(v:Value) (W:World),Ext w12 W→Rep W (fun b=>w12.heap.size≤b) v (numsD .u8 (byI X))→_ from fun v W hXW hv=>parse_any X r1 (by omega) r2 r3 _ r4 m (nodesN m) hfr (by omega) _ v W ((HH.out w12 HB12.out.1).1.ext hXW) hv)
    have hXs:X.length≤9223372036854775807:=by omega
    clear hX12 HB11 hX r1 r2 r3 r4 hnd hfr htl hXl
    go_wp2_with fail
    refine HCO.out.mono ?_
    rintro e w13 ⟨rfl,hX13⟩
    clear HCO
    obtain⟨bv,w14,hcv,hE14,hbv⟩:=conv_bytes w13 X hXs
    have HX14:=Lh (hX13.trans hE14)
    have HP:=Lh (HP0.out bv w14 HX14.out (hbv.ok fun b hb=>Nat.le_trans hX13.size hb))
    have HB14:=Lh (And.intro (HB12.out.1.trans HX14.out) (And.intro ((Below.block HX14.out t5 (blk_lt HB12.out.2.1)).trans HB12.out.2.1) (And.intro (HB12.out.2.2.1.ext HX14.out) (HB12.out.2.2.2.ext HX14.out))))
    clear HP0 hX13 hE14 hbv HB12
    go_wp2_with fail
    refine HP.out.mono ?_
    rintro e w15 ⟨ra,rk,rfl,hra,hrk,hX15⟩
    clear HP hcv
    obtain⟨da,dac,rfl,_,_⟩:=hra.count z_attr (by omega)
    obtain⟨dk,dkc,rfl,_,_⟩:=hrk.count z_node (by omega)
    obtain⟨w16,hw16⟩:∃X,w15.alloc (.cells #[.slice none 0 0,.int .i64 m.kind,.string (bs m.name),.string (bs m.text),.slice da m.attrs.length dac,.slice dk m.kids.length dkc,.slice none 0 0] 39)=X:=⟨_,rfl⟩
    obtain⟨t11,ht11⟩:∃t,w15.heap.size=t:=⟨_,rfl⟩
    have hE16:Ext w15 w16:=by rw[←hw16];exact(Ext.refl w15).alloc _
    have hb16:w16.heap[t11]? =some (.cells #[.slice none 0 0,.int .i64 m.kind,.string (bs m.name),.string (bs m.text),.slice da m.attrs.length dac,.slice dk m.kids.length dkc,.slice none 0 0] 39 (0,0)):=by rw[←hw16,←ht11];exact Array.getElem?_push_size ..
    have hX16:=hX15.trans hE16
    have HB16:=Lh (And.intro (HB14.out.1.trans hX16) (And.intro ((Below.block hX16 t5 (blk_lt HB14.out.2.1)).trans HB14.out.2.1) (And.intro (HB14.out.2.2.1.ext hX16) (HB14.out.2.2.2.ext hX16))))
    have HC16:=Lh (And.intro hb16 (And.intro (hra.ext hE16) (hrk.ext hE16)))
    have HCO:=Lh (code_nil w16)
    have HW16:=Lh (And.intro ht11 hw16)
    clear hX15 hE16 hb16 hra hrk hX16 HB14 hw16 ht11
    go_wp2_with fail
    try rw[HW16.out.1]
    try rw[HW16.out.2]
    refine HCO.out.mono ?_
    rintro e w17 ⟨rfl,hX17⟩
    clear HCO HW16
    have hb17:=(Below.block hX17 t11 (blk_lt HC16.out.1)).trans HC16.out.1
    have hb18:=(Below.block hX17 t5 (blk_lt HB16.out.2.1)).trans HB16.out.2.1
    have d1:=blk_cell hb17 (k:=1) rfl;have d2:=blk_cell hb17 (k:=2) rfl;have d3:=blk_cell hb17 (k:=3) rfl;have d4:=blk_cell hb17 (k:=4) rfl;have d5:=blk_cell hb17 (k:=5) rfl
    have k0:=blk_cell hb18 (k:=0) rfl;have k1:=blk_cell hb18 (k:=1) rfl;have k2:=blk_cell hb18 (k:=2) rfl;have k3:=blk_cell hb18 (k:=3) rfl;have k4:=blk_cell hb18 (k:=4) rfl
    have HS:=Lh (same_any (nsz m) m m _ _ _ _ _ _ w17 (Nat.le_refl _) (HC16.out.2.1.ext hX17) (HC16.out.2.2.ext hX17) (HB16.out.2.2.1.ext hX17) (HB16.out.2.2.2.ext hX17))
    rw[sameN_refl]at HS
    have HX17:=Lh (HB16.out.1.trans hX17)
    clear hX17 hb17 hb18 HB16 HC16
    go_wp2_with fail
    refine HS.out.mono ?_
    rintro e w18 ⟨rfl,hX18⟩
    go_wp2_with fail
    go_ret
    exact⟨rfl,HX17.out.trans hX18⟩
   ·
    rw[if_neg hD]at hdr
    obtain⟨ev,rfl,hev⟩:=hdr
    have HCO:=Lh (code_any 80 0 _ ev w12 (HH.out w12 HB12.out.1).2.1 hev)
    have hdI:(32:Int)< (depN m:Int):=by omega
    obtain⟨D,hDD⟩:∃D,depN m=D:=⟨_,rfl⟩
    rw[hDD]at hdI
    have HD:=Lh hDD
    clear hX12 HB11 hev hD hDD
    go_wp2_with fail
    refine HCO.out.mono ?_
    rintro e w13 ⟨rfl,hX13⟩
    have HB13:=Lh (And.intro (HB12.out.1.trans hX13) (And.intro ((Below.block hX13 t5 (blk_lt HB12.out.2.1)).trans HB12.out.2.1) (And.intro (HB12.out.2.2.1.ext hX13) (HB12.out.2.2.2.ext hX13))))
    have k0:=blk_cell HB13.out.2.1 (k:=0) rfl;have k1:=blk_cell HB13.out.2.1 (k:=1) rfl;have k2:=blk_cell HB13.out.2.1 (k:=2) rfl;have k3:=blk_cell HB13.out.2.1 (k:=3) rfl;have k4:=blk_cell HB13.out.2.1 (k:=4) rfl
    have HDP:=Lh (rdepth_any (nsz m) m (fun _=>True) _ _ w13 (Nat.le_refl _) hcm3 HB13.out.2.2.1 HB13.out.2.2.2)
    rw[HD.out]at HDP
    clear hX13 HCO HB12
    go_wp2_with fail
    refine HDP.out.mono ?_
    rintro e w14 ⟨rfl,hX14⟩
    go_wp2_with fail
    go_ret
    exact⟨rfl,HB13.out.1.trans hX14⟩
end Go.Proofs.YtcfibjiikhnfhaaGreatDoor
