import Derived.Test.YtoinghjainpkfaaGreatS1
import Derived.OrdersIn
import Derived.RangeFuncRecord
import Derived.Orders
/- What the claim hangs on, part 2: VQ VS VT VU VUA VUB VUC VUE VUF VV. -/
set_option linter.unusedVariables false
set_option linter.unusedSimpArgs false
namespace Go.VI
section
variable {P : Program} {m : Mp} {F : Fz} {H : Heap} {w : World} {e : Env} {a : Act} {co : Oper} {nid : Nat} {al : Option Nat}
theorem sim_slstr (hs : Sit P m F H w e a) {t : TypeId} {x : Operand} {lo hi : Option Operand} (ho : co.op = .slice t x lo hi none) (hu : P.underlying t = some .string) {v : AV} {H' : Heap} (h : opS nid e H (.slstr x lo hi) = some (v,H')) : OpOk P co a al m F w v H':=by
 simp only [opS,Option.bind_eq_some_iff] at h
 obtain ⟨lr,h1,hr,h2,h⟩:=h
 split at h
 rotate_left
 ·cases h
 rename_i s hx
 simp only [Option.map_eq_some_iff] at h
 obtain ⟨⟨l,h'⟩,hb,h⟩:=h
 cases h
 obtain ⟨he,_⟩:=vr_sc (hx ▸ hs.ev x)
 obtain ⟨cm,hrun,_⟩:=run_bounds (P:=P) hs (mx:=none) h1 h2 rfl hb (Nat.le_refl _) (by simp) false
 refine OpOk.still (u:=.string (s.extract l h')) hs.inv ?_ (.fz (.sc rfl))
 simp only [Option.map_none] at hrun
 simp only [execOp,ho,Instr.sliceAt,Sem.run_bind,run_under' hu,Result.andThen_ok,he,Instr.slice,Option.map_none,Option.isSome_none,Bool.false_eq_true,if_false,hrun,Sem.run_pure]
theorem boundsA_len {n : Nat} {lo hi mx : Option Int} {l h : Nat} (hb : boundsA n lo hi mx = some (l,h)) : l ≤ h ∧ h ≤ n:=by
 obtain ⟨_,_,_,_,h1,h2,_⟩:=boundsA_some hb
 exact ⟨h1,h2⟩
theorem sim_slice (hs : Sit P m F H w e a) {t : TypeId} {x : Operand} {lo hi mx : Option Operand} (ho : co.op = .slice t x lo hi mx) {el : TypeId} (hu : P.underlying t = some (.slice el)) {i : Nat × Nat × List AV} (hi' : infoA P el = some i) (hmx : mx.isSome → hi.isSome)
    {v : AV} {H' : Heap} (h : opS nid e H (.slice i.1 x lo hi mx) = some (v, H')) : OpOk P co a al m F w v H' := by
  obtain ⟨ti, z, i1, i2, rfl, i3, i4, hpos, hby⟩ := infoA_some hi'
  simp only [opS, Option.bind_eq_some_iff] at h
  obtain ⟨lr, h1, hr, h2, mr, h3, h⟩ := h
  simp only [Option.map_eq_some_iff] at h
  obtain ⟨y, hy, h⟩ := h
  cases h
  have hx := hs.ev x
  have hrun : ∀ (A : Option Addr) (len cap l h cm : Nat), a.eval x = .slice A len cap → (Instr.sliceBounds true len cap (lo.map a.eval) (hi.map a.eval) (mx.map a.eval)).run P w = .ok (l, h, cm) w →
      (execOp a.eval co).run P w = .ok (.value (.slice (if cm = l then A else A.map (·.add (l * ti.size))) (h - l) (cm - l))) w := by
    intro A len cap l h cm he hb
    simp only [execOp, ho, Instr.sliceAt, Sem.run_bind, run_under' hu, Result.andThen_ok, he, Instr.slice, hb, run_sizeOf' i1, Sem.run_pure]
  unfold sliceA at hy
  split at hy
  · rename_i rows hxx
    rw [hxx] at hx
    have hp := vr_lst hx
    simp only [Option.bind_eq_some_iff] at hy
    obtain ⟨⟨l, h⟩, hb, hy⟩ := hy
    split at hy
    rotate_left
    · cases hy
    rename_i hsz
    cases hy
    generalize hq : a.eval x = q at hp
    cases hp with
    | lst cv hcap hA hr' h1' hc hh =>
      rename_i A cap sz b o
      obtain ⟨cm, hbr, hcm1, hcm2⟩ := run_bounds (P := P) hs h1 h2 h3 hb hcap hmx true
      obtain ⟨hlh, hhn⟩ := boundsA_len hb
      refine OpOk.still hs.inv (hrun _ _ _ _ _ _ hq hbr) ?_
      have hlen : ((rows.drop l).take (h - l)).length = h - l := by simp; omega
      have : VF F (.lst ((rows.drop l).take (h - l))) (.slice (if cm = l then A else A.map (·.add (l * ti.size))) ((rows.drop l).take (h - l)).length (cm - l)) := by
        refine .lst (sz := sz) (b := b) (o := o + l * sz) (fun i j => cv (l + i) j) (by omega) (fun hne => ?_) (fun i r hr => hr' _ r (getElem_drop_take hr).1) (fun i r j c hr hc' => h1' _ r j c (getElem_drop_take hr).1 hc') (fun i r j c hr hc' => ?_) (fun i r j c hr hc' => hh _ r j c (getElem_drop_take hr).1 hc')
        · have hlt : l < h := by
            rcases Nat.lt_or_ge l h with h5 | h5
            · exact h5
            · exfalso; apply hne; apply List.eq_nil_of_length_eq_zero; omega
          have hne0 : rows ≠ [] := by intro h0; subst h0; simp at hhn; omega
          rw [if_neg (by omega), hA hne0]
          simp only [Option.map_some, addr_add]
          rcases hsz with h0 | hsz
          · subst h0; simp
          · have h6 : rows[l]? = some rows[l] := List.getElem?_eq_getElem (by omega)
            have : sz = ti.size := by
              simp only [allSz, List.all_eq_true, beq_iff_eq] at hsz
              rw [← hr' l _ h6, hsz _ (List.mem_of_getElem? h6)]
            rw [this]
        · have := hc _ r j c (getElem_drop_take hr).1 hc'
          rw [Nat.add_mul, ← Nat.add_assoc] at this
          exact this
      rw [hlen] at this
      exact .fz this
  · rename_i id off len hxx
    rw [hxx] at hx
    obtain ⟨mb, cap, hm, he, hcap, hlen⟩ := vr_sl hx
    split at hy
    rotate_left
    · cases hy
    rename_i fz sz' rs hg
    split at hy
    rotate_left
    · cases hy
    rename_i hq
    obtain ⟨rfl, hle⟩ := hq
    simp only [Option.map_eq_some_iff] at hy
    obtain ⟨⟨l, h⟩, hb, hy⟩ := hy
    simp only at hy
    obtain ⟨vs, _, hsz', hcn, _⟩ := hs.inv.blk id mb _ hm hg
    obtain ⟨cm, hbr, hcm1, hcm2, hcm3⟩ := run_boundsS (P := P) hs h1 h2 h3 hb (by omega) (by omega) hmx true (cap := cap)
    have hlh : l ≤ h := by obtain ⟨_, _, _, _, h, _⟩ := boundsS_some hb; exact h
    subst hy
    refine OpOk.still hs.inv (hrun _ _ _ _ _ _ he hbr) ?_
    split
    · rename_i hh
      obtain ⟨h0, rfl⟩ : 0 < l ∧ l = h := hh
      show VR m F (.lst []) _
      rw [Nat.sub_self]
      exact .fz (.lst (rows := []) (sz := 0) (b := 0) (o := 0) (fun _ _ => undef) (Nat.zero_le _) (fun h => absurd rfl h) (by simp) (by simp) (by simp) (by simp))
    · rename_i hh
      split
      · exact .bad _
      · rename_i hmn
        have hmn' : mx = none := by
          cases mx with
          | none => rfl
          | some y => rcases optI_some h3 hs with ⟨h, _⟩ | ⟨_, _, _, _, _, rfl⟩
                      · cases h
                      · simp at hmn
        have hcc := hcm3 hmn'
        subst hcc
        have : VR m F (.sl id (off + l) (h - l)) (.slice (some ⟨mb.cb, mb.base + (off + l) * mb.sz, none⟩) (h - l) (cm - l)) := .sl hm (by omega) (by omega)
        rw [Nat.add_mul, ← Nat.add_assoc, hsz'] at this
        by_cases h0 : cm = l
        · have hl0 : l = 0 := by omega
          subst hl0
          rw [if_pos h0, hsz']
          simpa using this
        · rw [if_neg h0, hsz']
          simpa [addr_add] using this
  · rename_i hxx
    rw [hxx] at hx
    obtain ⟨he, _⟩ := vr_sc hx
    simp only [Option.map_eq_some_iff] at hy
    obtain ⟨⟨l, h⟩, hb, hy⟩ := hy
    cases hy
    obtain ⟨cm, hbr, hcm1, hcm2⟩ := run_bounds (P := P) hs h1 h2 h3 hb (Nat.le_refl 0) hmx true
    obtain ⟨hlh, hhn⟩ := boundsA_len hb
    rw [he] at hx
    have h0 : l = 0 := by omega
    have h00 : h = 0 := by omega
    have h000 : cm = 0 := by omega
    subst h0; subst h00; subst h000
    refine OpOk.still hs.inv (hrun _ _ _ _ _ _ he hbr) ?_
    simpa using hx
  · cases hy
theorem bytesOf_spec : ∀ (rs : List (List AV)) (l : List Int),bytesOfRows rs = some l → allSz 1 rs = true ∧ l.length = rs.length ∧ ∀ (i : Nat) (n : Int),l[i]? = some n → rs[i]? = some [.sc (.int .u8 n)]:=by
 intro rs
 induction rs with
 | nil => intro l h; simp [bytesOfRows] at h; subst h; simp [allSz]
 | cons r rs ih =>
  intro l h
  unfold bytesOfRows at h
  split at h
  ·cases ‹r :: rs = []›
  ·rename_i n rs' heq
   cases heq
   simp only [Option.map_eq_some_iff] at h
   obtain ⟨l',h',rfl⟩:=h
   obtain ⟨a1,a2,a3⟩:=ih l' h'
   refine ⟨by simp [allSz] at a1 ⊢; exact a1,by simp [a2],fun i b hb => ?_⟩
   cases i with
   | zero => simp at hb; subst hb; rfl
   | succ i => exact a3 i b (by simpa using hb)
  ·cases h
theorem sim_tostr (hs : Sit P m F H w e a) {s d : TypeId} {x : Operand} (ho : co.op = .convert s d x) {el : TypeId} (h1 : P.underlying s = some (.slice el)) (h2 : P.underlying d = some .string) (h3 : P.underlying el = some (.int .u8))
  {rs : List (List AV)} (hr : rowsOf H (ev e x) = some rs) {l : List Int} (hl : bytesOfRows rs = some l) : OpOk P co a al m F w (.sc (.string (strOfNums l))) H:=by
 obtain ⟨A,cap,he,hrows⟩:=rowsOf_sound hs.inv (hs.ev x) hr
 refine OpOk.still hs.inv ?_ (.fz (.sc rfl))
 obtain ⟨k1,k2,k3⟩:=bytesOf_spec rs l hl
 obtain ⟨us,hul,hucell,huone,hur,hua⟩:=hrows 1 k1
 simp only [execOp,ho,Sem.run_bind,he]
 rcases Nat.eq_zero_or_pos rs.length with h0 | h0
 ·have hl0 : l = []:=List.eq_nil_of_length_eq_zero (by omega)
  subst hl0
  rw [h0]
  cases A with
  | none =>
   rw [run_convert_bytes_nil w s el h1 h3 0 cap d h2]
   rfl
  | some ad =>
   have : (convert s d (.slice (some ad) 0 cap)).run P w = .ok (.string (strOfNums [])) w:=by
    simp [convert,run_under' h1,run_under' h2,run_under' h3,Conv.bytesToString,loadCells,loadCellsFrom,strOfNums]
    rfl
   rw [this]
   rfl
 ·obtain ⟨b,o,rfl⟩:=hua (by omega)
  rw [run_convert_bytes_arg w s el h1 h3 b o rs.length cap l k2 (fun i hi => ?_) d h2]
  ·rfl
  ·have hi2 : i < us.length:=by omega
   obtain ⟨ad,had,_,hc⟩:=hucell i us[i] (List.getElem?_eq_getElem hi2)
   cases had
   rw [addr_add] at hc
   rw [hc]
   have hli : l[i]? = some l[i]:=List.getElem?_eq_getElem (by omega)
   have h5:=(hur.cell i _ 0 _ (k3 i _ hli) rfl).2
   have h7 : us.toArray.getD (i * 1 + 0) undef = us[i]:=by simp [hi2]
   rw [h7] at h5
   rw [(vr_sc (m:=fun _ => none) (.fz h5)).1]
   simp [List.getD_eq_getElem?_getD,hli]
theorem sim_stringish (hs : Sit P m F H w e a) {s d : TypeId} {x : Operand} (ho : co.op = .convert s d x) {el el2 : TypeId} (h1 : P.underlying s = some (.slice el2)) (h2 : P.underlying d = some (.slice el)) (hsd : s = d) (h3 : P.underlying el = some (.int .u8))
  {v : AV} {H' : Heap} (h : opS nid e H (.stringish x) = some (v,H')) : OpOk P co a al m F w v H':=by
 simp only [opS] at h
 split at h
 rotate_left
 ·cases h
 rename_i id off len hx
 split at h
 rotate_left
 ·cases h
 rename_i hsz
 cases h
 have hv:=hs.ev x
 rw [hx] at hv
 obtain ⟨mb,cap,hm,he,_⟩:=vr_sl hv
 obtain ⟨fz,rs,hg⟩:=rowSz_some hsz
 have hB:=hs.inv.blk id mb _ hm hg
 obtain ⟨vs,⟨t,fr,hh,hf⟩,q1,q2,q3,q4,q5,q6,q7,q8⟩:=hB
 let fr' : Nat × Nat:=if fr.1 == fr.2 then (vs.size,vs.size + 1) else (min fr.1 vs.size,max fr.2 (vs.size + 1))
 let w' : World:=w.freeze ⟨mb.cb,vs.size,none⟩ 1
 have hw'h : w'.heap = w.heap.modify mb.cb fun
   | .cells c elem (lo,hi) => .cells c elem (if lo == hi then (vs.size,vs.size + 1) else (min lo vs.size,max hi (vs.size + 1)))
   | o => o:=rfl
 have hw'b : w'.heap[mb.cb]? = some (.cells vs t fr'):=by
  rw [hw'h,Array.getElem?_modify]
  simp [hh,fr']
 have hw'o : ∀ b,b ≠ mb.cb → w'.heap[b]? = w.heap[b]?:=fun b hb => by
  rw [hw'h,Array.getElem?_modify]
  simp [Ne.symm hb]
 have hcb' : CB w' mb.cb vs:=⟨t,fr',hw'b,by
  right
  simp only [fr']
  rcases hf with rfl | hf
  ·simp
  ·split
   ·simp
   ·simp; omega⟩
 have hcell : ∀ b o,w'.cell? ⟨b,o,none⟩ = w.cell? ⟨b,o,none⟩:=fun b o => by
  by_cases e : b = mb.cb
  ·subst e
   simp [World.cell?,hw'b,hh]
  ·exact cell_of_heap (hw'o b e) o
 have hsize : w'.heap.size = w.heap.size:=by rw [hw'h]; simp
 refine ⟨_,a.eval x,m,F,w',?_,.inl rfl,hv,hs.inv.next (MLe.refl m) (FLe.refl F) (fun b o v hv => by rw [hcell]; exact hs.inv.fz b o v hv) (fun j mj hj => by rw [hsize]; exact hs.inv.lt j mj hj) (fun j mj B hj hB => ?_) hs.inv.inj,?_⟩
 ·simp only [execOp,ho,Sem.run_bind,he]
  subst hsd
  have : (convert s s (.slice (some ⟨mb.cb,mb.base + off * mb.sz,none⟩) len cap)).run P w = .ok (.slice (some ⟨mb.cb,mb.base + off * mb.sz,none⟩) len cap) w':=by
   rw [h1] at h2
   cases h2
   simp [convert,run_under' h1,run_under' h3,markStringish,World.shape?,hh,w']
  rw [this]
  rfl
 ·by_cases e : mj.cb = mb.cb
  ·refine .inr ?_
   by_cases hd : B = .dead
   ·subst hd; trivial
   have:=hs.inv.inj j id mj mb hj hm (live_of hB hd) (live_of hg (by simp)) e
   subst this
   rw [hm] at hj
   cases hj
   rw [hg] at hB
   cases hB
   exact ⟨vs,hcb',q1,q2,q3,q4,q5,q6,q7,fun hz => ⟨(q8 hz).1,fun h => absurd rfl h⟩⟩
  ·exact .inl ⟨hj,hB,hw'o _ e,fun _ _ hv => hv⟩
 ·exact ⟨⟨MLe.refl m,FLe.refl F,by rw [hsize]; exact Nat.le_refl _,by simp [w',World.freeze],by simp [w',World.freeze],by simp [w',World.freeze],fun b _ hb => hw'o b (fun e => hb id mb hm e.symm),fun _ _ x => .inl x,fun _ _ _ x => .inl x⟩,Dom.refl al m⟩
end
end Go.VI
namespace Go.VI
section
variable {P : Program} {m : Mp} {F : Fz} {H : Heap} {w : World} {e : Env} {a : Act} {co : Oper} {nid : Nat} {al : Option Nat}
theorem sim_mkmap (hn : Free m H nid) (hs : Sit P m F H w e a) {t : TypeId} (ho : co.op = .makeMap t none) (kd : Option IntKind) : OpOk P co a (some nid) m F w (.mp nid) (H.put nid (.mpb kd [] [] 0)):=by
 obtain ⟨h1,h2⟩:=Inv.push hn hs.inv (wd:=w) rfl rfl rfl rfl (.map #[] 0) (.mpb kd [] [] 0) 0 0 0 ⟨#[],heap_alloc_at,rfl,rfl,by simp⟩
 refine ⟨_,_,_,F,_,?_,.inl rfl,.mp (mset_self _ _ _),h1,h2,Dom.mset _ _ _⟩
 simp [execOp,ho,Instr.makeMap]
theorem keyT_some {t : TypeId} {kd : Option IntKind × TypeId} (h : keyT P t = some kd) : ∃ kt,P.underlying t = some (.map kt kd.2) ∧ ((∃ k,kd.1 = some k ∧ P.underlying kt = some (.int k)) ∨ (kd.1 = none ∧ P.underlying kt = some .string)):=by
 unfold keyT at h
 split at h
 ·rename_i kt el hu
  split at h
  ·rename_i k hk
   cases h
   exact ⟨kt,hu,.inl ⟨k,rfl,hk⟩⟩
  ·rename_i hk
   cases h
   exact ⟨kt,hu,.inr ⟨rfl,hk⟩⟩
  ·cases h
 ·cases h
def kval : Option IntKind → Value → Prop
 | some k,v => ∃ n,v = .int k n
 | none,v => ∃ s,v = .string s
theorem keyOk_val {kd : Option IntKind} {x : AV} {v : Value} (h : keyOk kd x = true) (hv : VR m F x v) : x = .sc v ∧ kval kd v:=by
 unfold keyOk at h
 split at h
 ·obtain ⟨rfl,_⟩:=vr_sc hv
  simp at h
  subst h
  exact ⟨rfl,_,rfl⟩
 ·obtain ⟨rfl,_⟩:=vr_sc hv
  exact ⟨rfl,_,rfl⟩
 ·cases h
theorem run_checkKey {kd : Option IntKind} {kt : TypeId} (hk : (∃ k,kd = some k ∧ P.underlying kt = some (.int k)) ∨ (kd = none ∧ P.underlying kt = some .string)) (v : Value) (b : Bool) : (Instr.checkKey b 10000 kt v).run P w = .ok () w:=by
 rcases hk with ⟨k,_,hk⟩ | ⟨_,hk⟩
 ·unfold Instr.checkKey; simp [run_under' hk]
 ·unfold Instr.checkKey; simp [run_under' hk]
theorem ba_eq {x y : ByteArray} (h : (x == y) = true) : x = y:=by
 rw [beq_toListBytes] at h
 have h:=eq_of_beq h
 rw [ByteArray.toList_eq,ByteArray.toList_eq] at h
 cases x; cases y
 congr
 exact Array.toList_inj.1 h
theorem run_findKey {kd : Option IntKind} {kt : TypeId} (hk : (∃ k,kd = some k ∧ P.underlying kt = some (.int k)) ∨ (kd = none ∧ P.underlying kt = some .string)) {kx : Value} (hkx : kval kd kx) :
  ∀ (es : List (AV × AV)) (ens : List MapEntry) (i : Nat),ens.length = es.length → (∀ (j : Nat) (k v : AV),es[j]? = some (k,v) → ∃ en : MapEntry,ens[j]? = some en ∧ VR m F k en.key ∧ keyOk kd k = true ∧ VR m F v en.val) →
  (lookE (.sc kx) es = none ∧ Instr.findNow ((P.underlying kt).getD .bool) kx ens i = some none ∧ ∀ (x : AV),putE (.sc kx) x es = es ++ [(.sc kx,x)]) ∨
  (∃ j k v en,es[j]? = some (k,v) ∧ ens[j]? = some en ∧ VR m F v en.val ∧ k = .sc kx ∧ en.key = kx ∧ lookE (.sc kx) es = some v ∧ Instr.findNow ((P.underlying kt).getD .bool) kx ens i = some (some (i + j,en.val)) ∧ ∀ (x : AV),putE (.sc kx) x es = es.set j (.sc kx,x)):=by
 intro es
 induction es with
 | nil =>
  intro ens i hl h
  have : ens = []:=List.eq_nil_of_length_eq_zero (by simpa using hl)
  subst this
  exact .inl ⟨rfl,rfl,fun _ => rfl⟩
 | cons p es ih =>
  intro ens i hl h
  obtain ⟨k,v⟩:=p
  cases ens with
  | nil => simp at hl
  | cons en ens =>
   obtain ⟨en',h1,h2,h3,h4⟩:=h 0 k v rfl
   cases h1
   obtain ⟨rfl,hkv⟩:=keyOk_val h3 h2
   have hih:=ih ens (i + 1) (by simpa using hl) (fun j k v hj => h (j + 1) k v (by simpa using hj))
   have key : ∃ b,keyEq (.sc kx) (.sc en.key) = b ∧ Instr.sameNow ((P.underlying kt).getD .bool) kx en.key = some b ∧ (b = true → en.key = kx):=by
    rcases hk with ⟨k,rfl,hk⟩ | ⟨rfl,hk⟩
    ·obtain ⟨x,rfl⟩:=hkx
     obtain ⟨y,hy⟩:=hkv
     rw [hy,hk]
     exact ⟨x == y,rfl,by simp [Instr.sameNow],fun h => by rw [eq_of_beq h]⟩
    ·obtain ⟨x,rfl⟩:=hkx
     obtain ⟨y,hy⟩:=hkv
     rw [hy,hk]
     exact ⟨x == y,rfl,by simp [Instr.sameNow],fun h => by rw [ba_eq h]⟩
   obtain ⟨b,k1,k2,k3⟩:=key
   cases b with
   | true =>
    refine .inr ⟨0,_,v,en,rfl,rfl,h4,by rw [k3 rfl],k3 rfl,?_,?_,fun x => ?_⟩
    ·simp [lookE,k1]
    ·simp [Instr.findNow,k2]
    ·simp [putE,k1]
   | false =>
    rcases hih with ⟨a1,a2,a3⟩ | ⟨j,k',v',en2,b1,b2,b3,b4,b5,b6,b7,b8⟩
    ·refine .inl ⟨by simp [lookE,k1,a1],by simp [Instr.findNow,k2,a2],fun x => by simp [putE,k1,a3]⟩
    ·refine .inr ⟨j + 1,k',v',en2,by simpa using b1,by simpa using b2,b3,b4,b5,by simp [lookE,k1,b6],?_,fun x => by simp [putE,k1,b8]⟩
     simp only [Instr.findNow,k2,b7]
     congr 3
     omega
theorem sim_look (hs : Sit P m F H w e a) {t : TypeId} {mo ko : Operand} {ok : Bool} (ho : co.op = .lookup t mo ko ok) {kd : Option IntKind × TypeId} (hkd : keyT P t = some kd) {z : Value} (hz : (zeroValue kd.2).run P w = .ok z w) (hsz : isSc z = true)
  {v : AV} {H' : Heap} (h : opS nid e H (.look kd.1 (.sc z) mo ko ok) = some (v,H')) : OpOk P co a al m F w v H':=by
 obtain ⟨kt,hu,hk⟩:=keyT_some hkd
 simp only [opS] at h
 split at h
 rotate_left
 ·cases h
 rename_i id hm'
 split at h
 rotate_left
 ·cases h
 rename_i kd' es bs ck hg
 split at h
 rotate_left
 ·cases h
 rename_i hh
 obtain ⟨rfl,hko⟩:=hh
 cases h
 obtain ⟨mb,hm,he⟩:=vr_mp (hm' ▸ hs.ev mo)
 obtain ⟨hke,hkv⟩:=keyOk_val hko (hs.ev ko)
 obtain ⟨ens,h1,h2,h2b,h3⟩:=hs.inv.blk id mb _ hm hg
 have hund : P.underlying kt = some ((P.underlying kt).getD .bool):=by rcases hk with ⟨k,_,hk⟩ | ⟨_,hk⟩ <;> rw [hk] <;> rfl
 have hf:=run_findKey (m:=m) (F:=F) hk hkv es ens.toList 0 (by simpa using h2) (fun j k v hj => by obtain ⟨en,c1,c2,c3,c4,_⟩:=h3 j k v hj; exact ⟨en,by simpa using c1,c2,c3,c4⟩)
 rw [hke]
 have hrun : ∀ (r : Option (Nat × Value)) (u : Value) (b : Bool),Instr.findNow ((P.underlying kt).getD .bool) (a.eval ko) ens.toList 0 = some r → (u,b) = (match r with | some (_,v) => (v,true) | none => (z,false)) →
   (execOp a.eval co).run P w = .ok (.value (if ok then .tuple #[u,.bool b] else u)) w:=by
  intro r u b hr hub
  simp only [execOp,ho,Instr.lookup,Sem.run_bind,run_under' hu,Result.andThen_ok,he,getObj,Sem.run,h1,Sem.run_pure,run_checkKey (w:=w) hk,Instr.findKey,run_under' hund,hr]
  cases r with
  | none =>
   cases hub
   simp only [Sem.run_bind,hz,Result.andThen_ok,Sem.run_pure]
  | some p =>
   cases hub
   simp only [Sem.run_bind,Result.andThen_ok,Sem.run_pure]
 rcases hf with ⟨a1,a2,_⟩ | ⟨j,k,v,en,b1,b2,b3,b4,b5,b6,b7,_⟩
 ·rw [a1]
  refine OpOk.still hs.inv (hrun _ z false a2 rfl) ?_
  cases ok
  ·exact .fz (.sc hsz)
  ·refine .tup (by simp) (fun i c hc => ?_)
   match i with
   | 0 => simp at hc; subst hc; exact .fz (.sc hsz)
   | 1 => simp at hc; subst hc; exact .fz (.sc rfl)
   | i + 2 => simp at hc
 ·rw [b6]
  refine OpOk.still hs.inv (hrun _ en.val true b7 rfl) ?_
  cases ok
  ·exact b3
  ·refine .tup (by simp) (fun i c hc => ?_)
   match i with
   | 0 => simp at hc; subst hc; exact b3
   | 1 => simp at hc; subst hc; exact .fz (.sc rfl)
   | i + 2 => simp at hc
theorem sim_mput (hs : Sit P m F H w e a) {t : TypeId} {mo ko vo : Operand} (ho : co.op = .mapUpdate t mo ko vo ∨ co.op = .insert t mo ko vo) {kd : Option IntKind × TypeId} (hkd : keyT P t = some kd)
  {v : AV} {H' : Heap} (h : opS nid e H (.mput kd.1 mo ko vo) = some (v,H')) : OpOk P co a al m F w v H':=by
 obtain ⟨kt,hu,hk⟩:=keyT_some hkd
 simp only [opS] at h
 split at h
 rotate_left
 ·cases h
 rename_i id hm'
 split at h
 rotate_left
 ·cases h
 rename_i kd2 es bs ck hg
 split at h
 rotate_left
 ·cases h
 rename_i hh
 obtain ⟨rfl,hko⟩:=hh
 cases h
 obtain ⟨mb,hm,he⟩:=vr_mp (hm' ▸ hs.ev mo)
 obtain ⟨hke,hkv⟩:=keyOk_val hko (hs.ev ko)
 obtain ⟨ens,h1,h2,h2b,h3⟩:=hs.inv.blk id mb _ hm hg
 have hlt:=(hs.inv.lt _ _ hm).2
 have hund : P.underlying kt = some ((P.underlying kt).getD .bool):=by rcases hk with ⟨k,_,hk⟩ | ⟨_,hk⟩ <;> rw [hk] <;> rfl
 have hf:=run_findKey (m:=m) (F:=F) hk hkv es ens.toList 0 (by simpa using h2) (fun j k v hj => by obtain ⟨en,c1,c2,c3,c4,_⟩:=h3 j k v hj; exact ⟨en,by simpa using c1,c2,c3,c4⟩)
 rw [hke]
 have fin : ∀ (ens' : Array MapEntry) (bs' : List Nat) (ck' : Nat),(Instr.mapUpdate t (.map (some mb.cb)) (a.eval ko) (a.eval vo)).run P w = .ok () { w with heap:=w.heap.setIfInBounds mb.cb (.map ens' ck') } → ens'.size = (putE (.sc (a.eval ko)) (ev e vo) es).length → bs'.length = (putE (.sc (a.eval ko)) (ev e vo) es).length →
   (∀ (i : Nat) (k v : AV),(putE (.sc (a.eval ko)) (ev e vo) es)[i]? = some (k,v) → ∃ en : MapEntry,ens'[i]? = some en ∧ VR m F k en.key ∧ keyOk kd.1 k = true ∧ VR m F v en.val ∧ bs'[i]? = some en.born) →
   OpOk P co a al m F w .bad (H.set id (.mpb kd.1 (putE (.sc (a.eval ko)) (ev e vo) es) bs' ck')):=by
  intro ens' bs' ck' hr hsz hsb hes
  have hne : ∀ b,b ≠ mb.cb → ({ w with heap:=w.heap.setIfInBounds mb.cb (.map ens' ck') } : World).heap[b]? = w.heap[b]?:=fun b hb => by
   show (w.heap.setIfInBounds mb.cb _)[b]? = _
   rw [Array.getElem?_setIfInBounds_ne (Ne.symm hb)]
  have hat : ({ w with heap:=w.heap.setIfInBounds mb.cb (.map ens' ck') } : World).heap[mb.cb]? = some (.map ens' ck'):=by
   show (w.heap.setIfInBounds mb.cb _)[mb.cb]? = _
   simp [hlt]
  refine ⟨.skip,undef,m,F,{ w with heap:=w.heap.setIfInBounds mb.cb (.map ens' ck') },?_,.inr ⟨rfl,rfl⟩,.bad _,hs.inv.next (MLe.refl m) (FLe.refl F) (fun b o v hv => ?_) (fun j mj hj => ?_) (fun j mj B hj hB => ?_) (fun i j mi mj hi hj li lj e => ?_),?_⟩
  ·rcases ho with ho | ho <;> simp only [execOp,ho,he,Sem.run_bind,hr,Result.andThen_ok,Sem.run_pure]
  ·have hb : b ≠ mb.cb:=fun e => by
    have:=hs.inv.fz b o v hv
    rw [e] at this
    simp [World.cell?,h1] at this
   rw [cell_of_heap (hne b hb)]
   exact hs.inv.fz b o v hv
  ·have:=hs.inv.lt j mj hj
   simpa using this
  ·by_cases e : j = id
   ·subst e
    rw [Heap.get_set_self _ (hs.inv.lt _ _ hm).1] at hB
    cases hB
    rw [hm] at hj
    cases hj
    exact .inr ⟨ens',hat,hsz,hsb,hes⟩
   ·rw [Heap.get_set_ne _ e] at hB
    by_cases hd : B = .dead
    ·subst hd; exact .inr trivial
    ·exact .inl ⟨hj,hB,hne _ (cb_other hs.inv hm hj (live_of hg (by simp)) (live_of hB hd) e),fun _ _ hv => hv⟩
  ·exact hs.inv.inj i j mi mj hi hj (live_set li (.inl (live_of hg (by simp)))) (live_set lj (.inl (live_of hg (by simp)))) e
  ·exact ⟨⟨MLe.refl m,FLe.refl F,by simp,rfl,rfl,rfl,fun b _ hb => hne b (fun e => hb id mb hm e.symm),fun _ _ x => .inl x,fun _ _ _ x => .inl x⟩,Dom.refl al m⟩
 have hrun : ∀ (r : Option (Nat × Value)),Instr.findNow ((P.underlying kt).getD .bool) (a.eval ko) ens.toList 0 = some r →
   (Instr.mapUpdate t (.map (some mb.cb)) (a.eval ko) (a.eval vo)).run P w = (match r with
    | some (i,_) => (do
      let key ← Instr.keyThatStays (((ens[i]?).map (fun en : MapEntry => en.key)).getD (a.eval ko)) (a.eval ko)
      setObj mb.cb (.map (ens.modify i fun e => { e with key,val:=a.eval vo }) ck) : Sem Unit)
    | none => setObj mb.cb (.map (ens.push { key:=a.eval ko,val:=a.eval vo,born:=ck }) (ck + 1))).run P w:=by
  intro r hr
  simp only [Instr.mapUpdate,Sem.run_bind,run_under' hu,Result.andThen_ok,getObj,Sem.run,h1,Sem.run_pure,run_checkKey (w:=w) hk,Instr.findKey,run_under' hund,hr]
  cases r with
  | none => rfl
  | some p => rfl
 rcases hf with ⟨a1,a2,a3⟩ | ⟨j,k,v,en,b1,b2,b3,b4,b5,b6,b7,b8⟩
 ·have ek : (lookE (.sc (a.eval ko)) es).isSome = false:=by rw [a1]; rfl
  rw [ek]
  refine fin (ens.push { key:=a.eval ko,val:=a.eval vo,born:=ck }) (bs ++ [ck]) (ck + 1) ?_ (by rw [a3]; simp [h2]) (by rw [a3]; simp [h2b]) (fun i k v hi => ?_)
  ·rw [hrun none a2]
   simp only [setObj,Sem.run,h1]
  ·rw [a3] at hi
   rcases Nat.lt_or_ge i es.length with h5 | h5
   ·rw [List.getElem?_append_left h5] at hi
    obtain ⟨en,c1,c2,c3,c4,c5⟩:=h3 i k v hi
    exact ⟨en,by rw [Array.getElem?_push_lt (by omega)]; rw [← c1]; exact (Array.getElem?_eq_getElem (by omega)).symm,c2,c3,c4,by rw [List.getElem?_append_left (by omega)]; exact c5⟩
   ·rw [List.getElem?_append_right h5] at hi
    have h6 : i - es.length = 0:=by have:=(List.getElem?_eq_some_iff.1 hi).1; simp at this; omega
    rw [h6] at hi
    simp at hi
    obtain ⟨rfl,rfl⟩:=hi
    have : i = ens.size:=by omega
    subst this
    refine ⟨_,Array.getElem?_push_size,?_,?_,hs.ev vo,?_⟩
    ·rw [← hke]; exact hs.ev ko
    ·rw [← hke]; exact hko
    ·rw [List.getElem?_append_right (by omega),h2b,h2,Nat.sub_self]; rfl
 ·have ek : (lookE (.sc (a.eval ko)) es).isSome = true:=by rw [b6]; rfl
  rw [ek]
  have hjl : j < ens.size:=by have:=(List.getElem?_eq_some_iff.1 b2).1; simpa using this
  have hen : ens[j]? = some en:=by simpa using b2
  refine fin (ens.modify j fun e => { e with key:=a.eval ko,val:=a.eval vo }) bs ck ?_ (by rw [b8]; simp [h2]) (by rw [b8]; simp [h2b]) (fun i k v hi => ?_)
  ·rw [hrun _ b7]
   simp only [Nat.zero_add,hen,Option.map_some,Option.getD_some,b5]
   have hks : (Instr.keyThatStays (a.eval ko) (a.eval ko)).run P w = .ok (a.eval ko) w:=by
    have : Instr.sameBits 10000 (a.eval ko) (a.eval ko) = true:=by
     generalize a.eval ko = q at hkv
     generalize hkk : kd.1 = kk at hkv
     cases kk with
     | none => obtain ⟨s,rfl⟩:=hkv; simp [Instr.sameBits,beq_toListBytes]
     | some k => obtain ⟨n,rfl⟩:=hkv; simp [Instr.sameBits]
    simp [Instr.keyThatStays,this]
   simp only [Sem.run_bind,hks,Result.andThen_ok,setObj,Sem.run,h1]
  ·rw [b8] at hi
   rw [List.getElem?_set] at hi
   by_cases hji : j = i
   ·subst hji
    rw [if_pos rfl,if_pos (by omega)] at hi
    simp at hi
    obtain ⟨rfl,rfl⟩:=hi
    obtain ⟨en9,d1,_,_,_,d5⟩:=h3 j _ _ b1
    rw [hen] at d1
    cases d1
    refine ⟨{ en with key:=a.eval ko,val:=a.eval vo },by rw [Array.getElem?_modify]; simp [hen],?_,?_,hs.ev vo,d5⟩
    ·rw [← hke]; exact hs.ev ko
    ·rw [← hke]; exact hko
   ·rw [if_neg hji] at hi
    obtain ⟨en',c1,c2⟩:=h3 i k v hi
    exact ⟨en',by rw [Array.getElem?_modify]; simp [hji,c1],c2⟩
end
end Go.VI
namespace Go.VI
variable {P : Program}
section
variable {P : Program} {m : Mp} {F : Fz} {H : Heap} {w : World} {e : Env} {a : Act} {co : Oper} {nid : Nat} {al : Option Nat}
theorem sim_copy (hs : Sit P m F H w e a) {c : Call} {d x : Operand} {t u : TypeId} (ho : co.op = .call c) (hc : c.callee = .builtin .copy) (ha : c.args = #[d,x]) (ht : c.argTypes = #[t,u]) {el : TypeId} (hel : elemA P t = some el)
  {i : Nat × Nat × List AV} (hi : infoA P el = some i) {v : AV} {H' : Heap} (h : opS nid e H (.copy i.1 d x) = some (v,H')) : OpOk P co a al m F w v H':=by
 obtain ⟨ti,z,i1,i2,rfl,i3,i4,hpos,hby⟩:=infoA_some hi
 simp only [opS,Option.bind_eq_some_iff] at h
 obtain ⟨xs,hxs,h⟩:=h
 simp only [Option.map_eq_some_iff] at h
 obtain ⟨⟨n,H1⟩,h,h'⟩:=h
 cases h'
 obtain ⟨A,cap,hxe,hrows⟩:=rowsOf_sound hs.inv (hs.ev x) hxs
 unfold copyA at h
 split at h
 ·rename_i id off len hd
  split at h
  rotate_left
  ·cases h
  rename_i sz rs hg
  split at h
  rotate_left
  ·cases h
  rename_i hh
  obtain ⟨rfl,hle,hall⟩:=hh
  cases h
  obtain ⟨us,hul,hucell,huone,hur,hua⟩:=hrows ti.size hall
  obtain ⟨mb,dcap,hm,hde,hcap,hlen⟩:=vr_sl (hd ▸ hs.ev d)
  obtain ⟨vs,hcb,hsz,hcn,hfit,hrl,hrc,hF,_⟩:=hs.inv.blk id mb _ hm hg
  have hnl : min xs.length len * ti.size ≤ us.length:=by rw [hul]; exact Nat.mul_le_mul_right _ (Nat.min_le_left _ _)
  have htake : (us.take (min xs.length len * ti.size)).length = min xs.length len * ti.size:=by simp; omega
  have hf:=run_first (P:=P) (w:=w) (len:=xs.length) (cap:=cap) (A:=A) htake (fun j u hj => hucell j u (by
   rw [List.getElem?_take] at hj
   split at hj
   ·exact hj
   ·cases hj))
  have hlen2 : off + min xs.length len ≤ rs.length:=by omega
  have hmul : (off + min xs.length len) * ti.size ≤ mb.cn * ti.size:=Nat.mul_le_mul_right _ (by omega)
  rw [Nat.add_mul] at hmul
  obtain ⟨w',vs',hst,hw⟩:=run_stores P mb.cb (mb.base + off * mb.sz) (us.take (min xs.length len * ti.size)) 0 w vs hcb (by rw [hsz,htake]; omega) (fun u hu => huone u (List.mem_of_mem_take hu))
  simp only [Nat.add_zero] at hw
  have hxl : (xs.take (min xs.length len)).length = min xs.length len:=by rw [List.length_take]; omega
  have hxr:=hur.take (min xs.length len) (Nat.min_le_left _ _)
  obtain ⟨b1,b2⟩:=row_write hs.inv hm hg hxr (by omega) hcb hw
  refine ⟨_,.int .i64 (min xs.length len : Nat),m,F,w',?_,.inl rfl,.fz (.sc rfl),b1,b2,Dom.refl al m⟩
  have hf' : (Builtin.firstCells ti.size (min xs.length len) (.slice A xs.length cap)).run P w = .ok (us.take (min xs.length len * ti.size)).toArray w:=hf
  have hnat : Nat.min xs.length len = min xs.length len:=rfl
  simp only [execOp,ho,resolve,hc,ha,ht,invoke,builtin,Sem.run_bind,Sem.run_pure,Result.andThen_ok,Builtin.copy_,List.getElem?_toArray,List.getElem?_cons_zero,List.getElem?_cons_succ,List.map_toArray,List.map_cons,List.map_nil,
   run_under' (elemA_some hel),hde,hxe,Builtin.lenOf,hnat,run_sizeOf' i1,hf',hst,goInt]
 ·split at h
  rotate_left
  ·cases h
  rename_i hl0
  cases h
  have hde : ∃ B c0,a.eval d = .slice B 0 c0:=by
   have hd:=hs.ev d
   unfold lenOfA at hl0
   split at hl0
   ·rename_i hxx
    rw [hxx] at hd
    exact ⟨none,0,(vr_sc hd).1⟩
   ·rename_i rows hxx
    rw [hxx] at hd
    have hp:=vr_lst hd
    generalize a.eval d = q at hp
    cases hp
    simp at hl0
    exact ⟨_,_,by rw [hl0]; rfl⟩
   ·rename_i id off len hxx
    rw [hxx] at hd
    obtain ⟨mb,c0,_,h,_⟩:=vr_sl hd
    simp at hl0
    subst hl0
    exact ⟨_,_,h⟩
   ·rename_i hxx
    rw [hxx] at hd
    obtain ⟨A,h⟩:=vr_emp hd
    exact ⟨A,0,h⟩
   ·cases ‹(0 : Nat) = 1›
   ·cases hl0
  obtain ⟨B,c0,hde⟩:=hde
  refine OpOk.still (u:=.int .i64 (0 : Nat)) hs.inv ?_ (.fz (.sc rfl))
  have hnat : Nat.min xs.length 0 = 0:=Nat.min_eq_right (Nat.zero_le _)
  have hf : (Builtin.firstCells ti.size 0 (.slice A xs.length cap)).run P w = .ok #[] w:=by
   cases A with
   | none => rfl
   | some ad => simp [Builtin.firstCells,loadCells,loadCellsFrom]
  simp only [execOp,ho,resolve,hc,ha,ht,invoke,builtin,Sem.run_bind,Sem.run_pure,Result.andThen_ok,Builtin.copy_,List.getElem?_toArray,List.getElem?_cons_zero,List.getElem?_cons_succ,List.map_toArray,List.map_cons,List.map_nil,
   run_under' (elemA_some hel),hde,hxe,Builtin.lenOf,hnat,run_sizeOf' i1,hf,goInt]
  cases B with
  | none => rfl
  | some b => rfl
theorem run_cap {c : Call} {x : Operand} {t : TypeId} (ho : co.op = .call c) (hc : c.callee = .builtin .cap) (ha : c.args = #[x]) (ht : c.argTypes = #[t]) {el : TypeId} (hu : P.underlying t = some (.slice el)) {A : Option Addr} {len cap : Nat} (he : a.eval x = .slice A len cap) :
  (execOp a.eval co).run P w = .ok (.value (.int .i64 cap)) w:=by
 simp [execOp,ho,resolve,hc,ha,ht,invoke,builtin,Builtin.cap_,run_under' hu,he,goInt]
theorem sim_cap (hs : Sit P m F H w e a) {c : Call} {x : Operand} {t : TypeId} (ho : co.op = .call c) (hc : c.callee = .builtin .cap) (ha : c.args = #[x]) (ht : c.argTypes = #[t]) {el : TypeId} (hu : P.underlying t = some (.slice el))
  {v : AV} {H' : Heap} (h : opS nid e H (.cap x) = some (v,H')) : OpOk P co a al m F w v H':=by
 simp only [opS] at h
 split at h
 ·rename_i hxx
  cases h
  obtain ⟨he,_⟩:=vr_sc (hxx ▸ hs.ev x)
  exact OpOk.still (u:=.int .i64 (0 : Nat)) hs.inv (run_cap ho hc ha ht hu he) (.fz (.sc rfl))
 ·cases h
theorem splice_nil {α : Type} (l : List α) (off : Nat) : splice l off [] = l:=by simp [splice]
theorem Heap.set_get {H : Heap} {id : Nat} {b : Blk} (h : H.get id = some b) : H.set id b = H:=Heap.ext fun j => by
 by_cases e : j = id
 ·subst e
  rw [Heap.get_set_self _ (Heap.get_lt h),h]
 ·rw [Heap.get_set_ne _ e]
theorem sim_clr (hs : Sit P m F H w e a) {c : Call} {x : Operand} {t : TypeId} (ho : co.op = .call c) (hc : c.callee = .builtin .clear) (ha : c.args = #[x]) (ht : c.argTypes = #[t]) {el : TypeId} (hel : elemA P t = some el)
  {i : Nat × Nat × List AV} (hi : infoA P el = some i) {v : AV} {H' : Heap} (h : opS nid e H (.clr i.1 i.2.2 x) = some (v,H')) : OpOk P co a al m F w v H':=by
 obtain ⟨ti,z,i1,i2,rfl,i3,i4,hpos,hby⟩:=infoA_some hi
 simp only [opS,Option.map_eq_some_iff] at h
 obtain ⟨H1,h,h'⟩:=h
 cases h'
 have hnone : ∀ (A : Option Addr) (c0 : Nat),a.eval x = .slice A 0 c0 → (execOp a.eval co).run P w = .ok (.value (.tuple #[])) w:=fun A c0 he => by
  cases A <;> simp [execOp,ho,resolve,hc,ha,ht,invoke,builtin,Builtin.clear_,run_under' (elemA_some hel),he]
 unfold clrA at h
 split at h
 ·rename_i id off len hd
  split at h
  rotate_left
  ·cases h
  rename_i sz rs hg
  split at h
  rotate_left
  ·cases h
  rename_i hh
  obtain ⟨rfl,hle⟩:=hh
  cases h
  obtain ⟨mb,dcap,hm,hde,hcap,hlen⟩:=vr_sl (hd ▸ hs.ev x)
  by_cases h0 : len = 0
  ·subst h0
   rw [List.replicate_zero,splice_nil,Heap.set_get hg]
   exact OpOk.still hs.inv (hnone _ _ hde) (.bad _)
  ·obtain ⟨vs,hcb,hsz,hcn,hfit,_⟩:=hs.inv.blk id mb _ hm hg
   have hz:=zrow z.cells len ti.size i4 F i3
   have hzz : RowsR F ti.size (List.replicate len (z.cells.toList.map AV.sc)) (Builtin.zeroCells z.cells len).toList.toArray:=by
    unfold Builtin.zeroCells
    rw [Array.toArray_toList]
    rwa [i4] at hz ⊢
   have hul : (Builtin.zeroCells z.cells len).toList.length = len * ti.size:=by
    have:=hzz.size
    simpa using this
   have hmul : (off + len) * ti.size ≤ mb.cn * ti.size:=Nat.mul_le_mul_right _ (by omega)
   rw [Nat.add_mul] at hmul
   obtain ⟨w',vs',hst,hw⟩:=run_stores P mb.cb (mb.base + off * mb.sz) (Builtin.zeroCells z.cells len).toList 0 w vs hcb (by rw [hsz,hul]; omega) (fun u hu => by
    obtain ⟨k,hk⟩:=List.getElem?_of_mem hu
    have hk':=(List.getElem?_eq_some_iff.1 hk).1
    rw [hul] at hk'
    have hdiv : k / ti.size < len:=(Nat.div_lt_iff_lt_mul hpos).2 hk'
    have hmod : k % ti.size < ti.size:=Nat.mod_lt _ hpos
    have hr : (List.replicate len (z.cells.toList.map AV.sc))[k / ti.size]? = some (z.cells.toList.map AV.sc):=by rw [List.getElem?_replicate,if_pos hdiv]
    have hrl : (z.cells.toList.map AV.sc).length = ti.size:=by simp [i4]
    obtain ⟨b1,b2⟩:=hzz.cell _ _ (k % ti.size) _ hr (List.getElem?_eq_getElem (by rw [hrl]; exact hmod))
    have he : k / ti.size * ti.size + k % ti.size = k:=Nat.div_add_mod' k ti.size
    rw [he] at b2
    have hu2 : (Builtin.zeroCells z.cells len).toList.toArray.getD k undef = u:=getD_of (by simpa using hk)
    rw [hu2] at b2
    exact oneCell_of (.fz b2 : VR m F _ u) b1)
   simp only [Nat.add_zero] at hw
   obtain ⟨b1,b2⟩:=row_write hs.inv hm hg hzz (by rw [List.length_replicate]; exact hle) hcb hw
   refine ⟨_,.tuple #[],m,F,w',?_,.inl rfl,.bad _,b1,b2,Dom.refl al m⟩
   obtain ⟨ln,rfl⟩ : ∃ ln,len = ln + 1:=⟨len - 1,by omega⟩
   simp [execOp,ho,resolve,hc,ha,ht,invoke,builtin,Builtin.clear_,run_under' (elemA_some hel),run_zero' i1 i2,hde,hst]
 ·split at h
  rotate_left
  ·cases h
  rename_i hl0
  cases h
  have hde : ∃ B c0,a.eval x = .slice B 0 c0:=by
   have hd:=hs.ev x
   unfold lenOfA at hl0
   split at hl0
   ·rename_i hxx
    rw [hxx] at hd
    exact ⟨none,0,(vr_sc hd).1⟩
   ·rename_i rows hxx
    rw [hxx] at hd
    have hp:=vr_lst hd
    generalize a.eval x = q at hp
    cases hp
    simp at hl0
    exact ⟨_,_,by rw [hl0]; rfl⟩
   ·rename_i id off len hxx
    rw [hxx] at hd
    obtain ⟨mb,c0,_,h,_⟩:=vr_sl hd
    simp at hl0
    subst hl0
    exact ⟨_,_,h⟩
   ·rename_i hxx
    rw [hxx] at hd
    obtain ⟨A,h⟩:=vr_emp hd
    exact ⟨A,0,h⟩
   ·cases ‹(0 : Nat) = 1›
   ·cases hl0
  obtain ⟨B,c0,hde⟩:=hde
  exact OpOk.still hs.inv (hnone _ _ hde) (.bad _)
theorem kindS_some {t : TypeId} {k : Nat} (h : kindS P t = some k) : (k = 0 ∧ ∃ j,P.underlying t = some (.int j)) ∨ (k = 1 ∧ P.underlying t = some .bool) ∨ (k = 2 ∧ P.underlying t = some .string):=by
 unfold kindS at h
 split at h <;> cases h <;> simp_all
theorem scEq_sound {t : TypeId} {k : Nat} (hk : kindS P t = some k) {x y : AV} {u v : Value} (hx : VR m F x u) (hy : VR m F y v) {r : Bool} (h : scEq k x y = some r) (d : Nat) : (Op.equalIn (d + 1) t u v).run P w = .ok r w ∧ u.oneCell' = true ∧ v.oneCell' = true:=by
 unfold scEq at h
 split at h
 ·split at h
  ·rename_i hjk
   subst hjk
   cases h
   obtain ⟨rfl,_⟩:=vr_sc hx
   obtain ⟨rfl,_⟩:=vr_sc hy
   rcases kindS_some hk with ⟨_,j,hu⟩ | ⟨h,_⟩ | ⟨h,_⟩
   ·exact ⟨run_equalIn_int w d t _ j _ _ hu,rfl,rfl⟩
   ·cases h
   ·cases h
  ·cases h
 ·cases h
  obtain ⟨rfl,_⟩:=vr_sc hx
  obtain ⟨rfl,_⟩:=vr_sc hy
  rcases kindS_some hk with ⟨h,_⟩ | ⟨_,hu⟩ | ⟨h,_⟩
  ·cases h
  ·exact ⟨run_equalIn_bool' w d t _ _ hu,rfl,rfl⟩
  ·cases h
 ·cases h
  obtain ⟨rfl,_⟩:=vr_sc hx
  obtain ⟨rfl,_⟩:=vr_sc hy
  rcases kindS_some hk with ⟨h,_⟩ | ⟨h,_⟩ | ⟨_,hu⟩
  ·cases h
  ·cases h
  ·exact ⟨run_equalIn_string w d t _ _ hu,rfl,rfl⟩
 ·cases h
theorem kindS_agg {t : TypeId} {k : Nat} (hk : kindS P t = some k) : (isAgg t).run P w = .ok false w:=by
 rcases kindS_some hk with ⟨_,j,hu⟩ | ⟨_,hu⟩ | ⟨_,hu⟩ <;> simp [isAgg,run_under' hu]
theorem eqsA_sound (d : Nat) (xs ys : Array Value) : ∀ (fs : List Field) (ks : List Nat) (i : Nat) (asx bs : List AV) (r : Bool),kindsF P i fs = some ks → eqsA ks asx bs = some r → xs.size = i + asx.length → ys.size = i + bs.length →
  (∀ (j : Nat) (c : AV),asx[j]? = some c → VR m F c (xs.getD (i + j) undef)) → (∀ (j : Nat) (c : AV),bs[j]? = some c → VR m F c (ys.getD (i + j) undef)) →
  (Op.eqFields (d + 1) xs ys fs).run P w = .ok r w
 | [],ks,i,asx,bs,r,hk,h,hx,hy,ha,hb => by
  simp [kindsF] at hk
  subst hk
  unfold eqsA at h
  split at h
  ·cases h; rfl
  ·cases ‹([] : List Nat) = _ :: _›
  ·cases h
 | f :: fs,ks,i,asx,bs,r,hk,h,hx,hy,ha,hb => by
  simp only [kindsF] at hk
  split at hk
  rotate_left
  ·cases hk
  rename_i hh
  obtain ⟨hn,ho⟩:=hh
  simp only [Option.bind_eq_some_iff,Option.map_eq_some_iff] at hk
  obtain ⟨k,hk1,ks',hk2,rfl⟩:=hk
  unfold eqsA at h
  split at h
  ·cases ‹_ :: _ = []›
  ·rename_i k' ks2 x as' y bs' heq
   cases heq
   simp only [Option.bind_eq_some_iff] at h
   obtain ⟨b,hb0,h⟩:=h
   have hx0:=ha 0 x rfl
   have hy0:=hb 0 y rfl
   obtain ⟨he,ox,oy⟩:=scEq_sound (w:=w) hk1 hx0 hy0 hb0 d
   simp only [List.length_cons] at hx hy
   have hxi : xs[i]? = some (xs.getD i undef):=by
    have h9 : i < xs.size:=by omega
    simp [h9]
   have hyi : ys[i]? = some (ys.getD i undef):=by
    have h9 : i < ys.size:=by omega
    simp [h9]
   have hpx : (part f.type xs f.offset).run P w = .ok (xs.getD i undef) w:=by
    simp only [part,Sem.run_bind,kindS_agg hk1,Result.andThen_ok,ho,hxi]
    rfl
   have hpy : (part f.type ys f.offset).run P w = .ok (ys.getD i undef) w:=by
    simp only [part,Sem.run_bind,kindS_agg hk1,Result.andThen_ok,ho,hyi]
    rfl
   have hne : f.name ≠ "_":=by simpa using hn
   simp only [Op.eqFields,hne,ne_eq,not_false_eq_true,if_true,Sem.run_bind,hpx,hpy,Result.andThen_ok]
   simp only [Nat.add_zero] at he
   rw [he]
   cases b with
   | true =>
    simp only [if_true] at h
    simp only [Result.andThen_ok,Bool.not_true,Bool.false_eq_true,if_false]
    exact eqsA_sound d xs ys fs ks' (i + 1) as' bs' r hk2 h (by omega) (by omega) (fun j c hj => by
     have:=ha (j + 1) c (by simpa using hj)
     rw [show i + 1 + j = i + (j + 1) by omega]
     exact this) (fun j c hj => by
     have:=hb (j + 1) c (by simpa using hj)
     rw [show i + 1 + j = i + (j + 1) by omega]
     exact this)
   | false =>
    simp only [Bool.false_eq_true,if_false] at h
    split at h
    ·cases h
     rfl
    ·cases h
  ·cases h
theorem sim_eqs (hs : Sit P m F H w e a) {op : BinOp} {t ty : TypeId} {x y : Operand} (ho : co.op = .binOp op t x y ty) (hop : op = .eql ∨ op = .neq) {ks : List Nat} (hf : flatS P t = some ks) {asx bs : List AV} (hx : ev e x = .agg asx) (hy : ev e y = .agg bs) {r : Bool} (h : eqsA ks asx bs = some r) :
  OpOk P co a al m F w (.sc (.bool (r != isNeq op))) H:=by
 obtain ⟨us,ex,ul,_,hu⟩:=vr_agg (hx ▸ hs.ev x)
 obtain ⟨vs,ey,vl,_,hv⟩:=vr_agg (hy ▸ hs.ev y)
 unfold flatS at hf
 split at hf
 rotate_left
 ·cases hf
 rename_i fs hun
 split at hf
 ·cases hf
 rename_i hst
 have hfo : P.fieldsOf t = fs:=by simp [Program.fieldsOf,hun]
 have hst' : P.stoodInHeld t = false:=by simpa using hst
 have heq : (Op.equal t (.agg us) (.agg vs)).run P w = .ok r w:=by
  have:=run_equalIn_struct (P:=P) w 9999 t us vs (by rw [hfo]; exact hun) hst'
  show (Op.equalIn (9999 + 1) t (.agg us) (.agg vs)).run P w = _
  rw [this,hfo]
  exact eqsA_sound (m:=m) (F:=F) 9998 us vs fs.toList ks 0 asx bs r hf h (by simpa using ul) (by simpa using vl) (fun j c hj => by simpa using hu j c hj) (fun j c hj => by simpa using hv j c hj)
 have hgt : P.eqGuardType P.depth t = false:=by
  have hfs : ∀ (d i : Nat) (fs : List Field) (ks : List Nat),kindsF P i fs = some ks → ∀ f ∈ fs,P.eqGuardType (d + 1) f.type = false:=by
   intro d i fs
   induction fs generalizing i with
   | nil => intro ks _ f hf; cases hf
   | cons g fs ih =>
    intro ks hk f hf
    simp only [kindsF] at hk
    split at hk
    rotate_left
    ·cases hk
    simp only [Option.bind_eq_some_iff,Option.map_eq_some_iff] at hk
    obtain ⟨k,hk1,ks',hk2,rfl⟩:=hk
    cases hf with
    | head => rcases kindS_some hk1 with ⟨_,j,hu⟩ | ⟨_,hu⟩ | ⟨_,hu⟩ <;> simp [Program.eqGuardType,hu]
    | tail _ hf => exact ih (i + 1) ks' hk2 f hf
  show P.eqGuardType (2 * (P.types.size + Made.depth) + 1 + 1) t = false
  unfold Program.eqGuardType
  simp only [hun]
  rw [Array.any_eq_false]
  intro i hi
  have:=hfs (2 * (P.types.size + Made.depth)) 0 fs.toList ks hf fs[i] (by simp)
  simp [this]
 have hguard : (eqGuard op t x y (.agg us) (.agg vs)).run P w = .ok () w:=by
  rcases hop with rfl | rfl <;> simp [eqGuard,hgt]
 refine OpOk.still hs.inv ?_ (.fz (.sc rfl))
 rcases hop with rfl | rfl
 ·simp only [execOp,ho,Sem.run_bind,ex,ey,hguard,Result.andThen_ok,binOp,heq,Sem.run_pure]
  cases r <;> rfl
 ·simp only [execOp,ho,Sem.run_bind,ex,ey,hguard,Result.andThen_ok,binOp,heq,Sem.run_pure]
  cases r <;> rfl
theorem isBoolT_some {t : TypeId} (h : isBoolT P t = true) : P.underlying t = some .bool:=by
 unfold isBoolT at h
 split at h
 ·assumption
 ·cases h
theorem isU8_some {t : TypeId} (h : isU8 P t = true) : P.underlying t = some (.int .u8):=by
 unfold isU8 at h
 split at h
 ·assumption
 ·cases h
def alOf (nid : Nat) (ao : AOp) : Option Nat:=match allocA ao with
 | true => some nid
 | false => none
theorem opS_sound (hs : Sit P m F H w e a) {ao : AOp} (hfr : allocA ao = true → Free m H nid) (hc : compOp P co.type co.op = some ao) (hnc : ∀ f args,ao ≠ .call f args) {v : AV} {H' : Heap} (h : opS nid e H ao = some (v,H')) : OpOk P co a (alOf nid ao) m F w v H':=by
 generalize hop : co.op = op at hc
 cases op with
 | move x =>
  simp only [compOp,Option.some.injEq] at hc; subst hc
  simp only [opS,Option.some.injEq,Prod.mk.injEq] at h
  obtain ⟨rfl,rfl⟩:=h
  exact sim_mov hs (.inl hop)
 | assign x =>
  simp only [compOp,Option.some.injEq] at hc; subst hc
  simp only [opS,Option.some.injEq,Prod.mk.injEq] at h
  obtain ⟨rfl,rfl⟩:=h
  exact sim_mov hs (.inr hop)
 | pick c x y =>
  simp only [compOp,Option.some.injEq] at hc; subst hc
  simp only [opS,Option.map_eq_some_iff,Prod.mk.injEq] at h
  obtain ⟨t,ht,rfl,rfl⟩:=h
  exact sim_pick hs hop ht
 | alloc t =>
  simp only [compOp,Option.map_eq_some_iff] at hc
  obtain ⟨i,hi,rfl⟩:=hc
  simp only [opS,Option.some.injEq,Prod.mk.injEq] at h
  obtain ⟨rfl,rfl⟩:=h
  exact sim_alloc (hfr rfl) hs hop hi
 | box t x =>
  simp only [compOp,Option.map_eq_some_iff] at hc
  obtain ⟨i,hi,rfl⟩:=hc
  simp only [opS] at h
  split at h
  ·rename_i hh
   simp only [Option.some.injEq,Prod.mk.injEq] at h
   obtain ⟨rfl,rfl⟩:=h
   exact sim_box (hfr rfl) hs hop hh.2
  ·cases h
 | build t parts => exact sim_build hs hop hc h
 | buildSlice t len parts =>
  simp only [compOp,Option.bind_eq_some_iff] at hc
  obtain ⟨el,hel,i,hi,hc⟩:=hc
  split at hc
  ·rename_i hl
   cases hc
   exact sim_bslice (hfr rfl) hs hop hel hi hl h
  ·cases hc
 | load t x =>
  simp only [compOp,Option.bind_eq_some_iff,Option.map_eq_some_iff] at hc
  obtain ⟨g,hg,i,hi,rfl⟩:=hc
  simp only [opS,Option.bind_eq_some_iff,Option.map_eq_some_iff,Prod.mk.injEq] at h
  obtain ⟨cs,hcs,r,hr,rfl,rfl⟩:=h
  exact sim_load hs hop hg hi hcs hr
 | store t p x =>
  simp only [compOp,Option.map_eq_some_iff] at hc
  obtain ⟨i,hi,rfl⟩:=hc
  simp only [opS,Option.map_eq_some_iff,Prod.mk.injEq] at h
  obtain ⟨H1,h1,rfl,rfl⟩:=h
  exact sim_store hs hop hi h1
 | nilCheck x =>
  simp only [compOp,Option.some.injEq] at hc; subst hc
  exact sim_nilck hs hop h
 | binOp bop t x y ty =>
  have gen : ∀ bop',bop = bop' → some (AOp.bin bop' t x y) = some ao → OpOk P co a (alOf nid ao) m F w v H':=by
   rintro bop' rfl hc
   simp only [Option.some.injEq] at hc; subst hc
   simp only [opS,Option.map_eq_some_iff,Prod.mk.injEq] at h
   obtain ⟨r,hr,rfl,rfl⟩:=h
   exact sim_bin hs hop hr
  have eqs : (bop = .eql ∨ bop = .neq) → (if isBoolT P t then some (AOp.eqb (isNeq bop) x y) else if scalarT P t then some (.bin bop t x y) else match nilable P t with
    | some kd => if isNilC kd y then some (.isnil (isNeq bop) kd x) else if isNilC kd x then some (.isnil (isNeq bop) kd y) else none
    | none => (flatS P t).map fun ks => .eqs (isNeq bop) ks x y) = some ao → OpOk P co a (alOf nid ao) m F w v H':=by
   intro hbop hc
   split at hc
   ·rename_i hb
    cases hc
    simp only [opS,Option.bind_eq_some_iff,Option.map_eq_some_iff,Prod.mk.injEq] at h
    obtain ⟨b,h1,c,h2,rfl,rfl⟩:=h
    exact sim_eqb hs hop hbop (isBoolT_some hb) h1 h2
   ·split at hc
    ·exact gen bop rfl hc
    ·split at hc
     ·rename_i kd hkd
      split at hc
      ·rename_i hn
       cases hc
       simp only [opS,Option.map_eq_some_iff,Prod.mk.injEq] at h
       obtain ⟨b,hb,rfl,rfl⟩:=h
       exact sim_isnil hs hop hbop hkd (.inl ⟨rfl,hn⟩) hb
      ·split at hc
       ·rename_i hn
        cases hc
        simp only [opS,Option.map_eq_some_iff,Prod.mk.injEq] at h
        obtain ⟨b,hb,rfl,rfl⟩:=h
        exact sim_isnil hs hop hbop hkd (.inr ⟨rfl,hn⟩) hb
       ·cases hc
     ·simp only [Option.map_eq_some_iff] at hc
      obtain ⟨ks,hks,rfl⟩:=hc
      simp only [opS] at h
      split at h
      ·rename_i asx bs hx hy
       simp only [Option.map_eq_some_iff,Prod.mk.injEq] at h
       obtain ⟨r,hr,rfl,rfl⟩:=h
       exact sim_eqs hs hop hbop hks hx hy hr
      ·cases h
  cases bop with
  | eql => exact eqs (.inl rfl) hc
  | neq => exact eqs (.inr rfl) hc
  | _ => exact gen _ rfl hc
 | unOp uop t x =>
  simp only [compOp,Option.some.injEq] at hc; subst hc
  simp only [opS,Option.bind_eq_some_iff,Option.map_eq_some_iff,Prod.mk.injEq] at h
  obtain ⟨u,hu,r,hr,q,hq,rfl,rfl⟩:=h
  exact sim_un hs hop hu hr hq
 | convert s d x =>
  simp only [compOp] at hc
  split at hc
  ·rename_i j k h1 h2
   cases hc
   simp only [opS,Option.map_eq_some_iff,Prod.mk.injEq] at h
   obtain ⟨n,hn,rfl,rfl⟩:=h
   exact sim_conv hs hop h1 h2 hn
  ·rename_i el2 el h1 h2
   split at hc
   ·rename_i hh
    cases hc
    exact sim_stringish hs hop h1 h2 hh.1 (isU8_some hh.2) h
   ·cases hc
  ·rename_i el h1 h2
   split at hc
   ·rename_i hh
    cases hc
    simp only [opS,Option.bind_eq_some_iff,Option.map_eq_some_iff,Prod.mk.injEq] at h
    obtain ⟨rs,hr,l,hl,rfl,rfl⟩:=h
    exact sim_tostr hs hop h1 h2 (isU8_some hh) hr hl
   ·cases hc
  ·cases hc
 | makeFunc f first caps =>
  simp only [compOp,Option.some.injEq] at hc; subst hc
  simp only [opS,Option.some.injEq,Prod.mk.injEq] at h
  obtain ⟨rfl,rfl⟩:=h
  exact sim_mkfn hs hop
 | makeSlice t l c =>
  simp only [compOp,Option.bind_eq_some_iff,Option.map_eq_some_iff] at hc
  obtain ⟨el,hel,i,hi,rfl⟩:=hc
  exact sim_mkslice (hfr rfl) hs hop hel hi h
 | slice t x lo hi mx =>
  simp only [compOp] at hc
  split at hc
  ·rename_i el hu
   split at hc
   ·cases hc
   ·rename_i hmx
    simp only [Option.map_eq_some_iff] at hc
    obtain ⟨i,hi',rfl⟩:=hc
    refine sim_slice hs hop hu hi' (fun hm => ?_) h
    cases hi with
    | none => exact absurd (by simp [hm]) hmx
    | some q => rfl
  ·rename_i hu
   split at hc
   ·rename_i hmx
    cases hc
    cases mx with
    | none => exact sim_slstr hs hop hu h
    | some q => simp at hmx
   ·cases hc
  ·cases hc
 | fieldAddr t x i =>
  simp only [compOp,Option.bind_eq_some_iff,Option.map_eq_some_iff] at hc
  obtain ⟨fs,hfs,f,hf,j,hj,rfl⟩:=hc
  exact sim_faddr hs hop hfs hf hj h
 | field t x i =>
  simp only [compOp,Option.bind_eq_some_iff,Option.map_eq_some_iff] at hc
  obtain ⟨fs,hfs,f,hf,g,hg,j,hj,rfl⟩:=hc
  simp only [opS] at h
  split at h
  ·rename_i cs hx
   split at h
   ·rename_i hle
    simp only [Option.map_eq_some_iff,Prod.mk.injEq] at h
    obtain ⟨r,hr,rfl,rfl⟩:=h
    exact sim_field hs hop hfs hf hg hj hx hle hr
   ·cases h
  ·cases h
 | indexAddr t x ix =>
  simp only [compOp] at hc
  split at hc
  ·rename_i el hu
   simp only [Option.map_eq_some_iff] at hc
   obtain ⟨i,hi,rfl⟩:=hc
   simp only [opS,Option.bind_eq_some_iff,Option.map_eq_some_iff,Prod.mk.injEq] at h
   obtain ⟨k,hk,r,hr,rfl,rfl⟩:=h
   exact sim_iaddr (arr:=none) hs hop hu hi hk hr
  ·rename_i n el hu
   simp only [Option.map_eq_some_iff] at hc
   obtain ⟨i,hi,rfl⟩:=hc
   simp only [opS,Option.bind_eq_some_iff,Option.map_eq_some_iff,Prod.mk.injEq] at h
   obtain ⟨k,hk,r,hr,rfl,rfl⟩:=h
   exact sim_iaddr (arr:=some n) hs hop hu hi hk hr
  ·cases hc
 | index t x ix =>
  simp only [compOp] at hc
  split at hc
  ·rename_i n el hu
   simp only [Option.bind_eq_some_iff,Option.map_eq_some_iff] at hc
   obtain ⟨g,hg,i,hi,rfl⟩:=hc
   simp only [opS,Option.bind_eq_some_iff] at h
   obtain ⟨k,hk,h⟩:=h
   split at h
   ·rename_i cs hx
    split at h
    ·rename_i hb
     simp only [Option.map_eq_some_iff,Prod.mk.injEq] at h
     obtain ⟨r,hr,rfl,rfl⟩:=h
     exact sim_index hs hop hu hg hi hk hx hb hr
    ·cases h
   ·cases h
  ·cases hc
 | extract x i =>
  simp only [compOp,Option.some.injEq] at hc; subst hc
  simp only [opS] at h
  split at h
  ·rename_i vs hx
   simp only [Option.map_eq_some_iff,Prod.mk.injEq] at h
   obtain ⟨r,hr,rfl,rfl⟩:=h
   exact sim_ext hs hop hx hr
  ·cases h
 | makeMap t r =>
  cases r with
  | none =>
   simp only [compOp,Option.map_eq_some_iff] at hc
   obtain ⟨kd,hkd,rfl⟩:=hc
   simp only [opS,Option.some.injEq,Prod.mk.injEq] at h
   obtain ⟨rfl,rfl⟩:=h
   exact sim_mkmap (hfr rfl) hs hop kd.1
  | some r => simp [compOp] at hc
 | lookup t mo ko ok =>
  simp only [compOp,Option.bind_eq_some_iff] at hc
  obtain ⟨kd,hkd,g,hg,hc⟩:=hc
  split at hc
  ·cases hc
  ·simp only [Option.bind_eq_some_iff] at hc
   obtain ⟨ti,hti,z,hz,hc⟩:=hc
   split at hc
   ·rename_i hsc
    cases hc
    exact sim_look hs hop hkd (run_zero' hti hz w) hsc h
   ·cases hc
 | mapUpdate t mo ko vo =>
  simp only [compOp,Option.map_eq_some_iff] at hc
  obtain ⟨kd,hkd,rfl⟩:=hc
  exact sim_mput hs (.inl hop) hkd h
 | insert t mo ko vo =>
  simp only [compOp,Option.map_eq_some_iff] at hc
  obtain ⟨kd,hkd,rfl⟩:=hc
  exact sim_mput hs (.inr hop) hkd h
 | call c =>
  simp only [compOp] at hc
  split at hc
  ·cases hc
   exact absurd rfl (hnc _ _)
  ·cases hc
  ·rename_i b hcal
   have hargs : ∀ {xs : List Operand},c.args.toList = xs → c.args = xs.toArray:=fun h => by rw [← h]
   have htys : ∀ {xs : List TypeId},c.argTypes.toList = xs → c.argTypes = xs.toArray:=fun h => by rw [← h]
   split at hc
   ·rename_i x t ha ht
    split at hc
    ·rename_i el hu
     cases hc
     exact sim_len hs hop hcal (hargs ha) (htys ht) (.inl ⟨rfl,el,hu⟩) h
    ·rename_i hu
     cases hc
     exact sim_len hs hop hcal (hargs ha) (htys ht) (.inr (.inl ⟨rfl,hu⟩)) h
    ·rename_i k el hu
     cases hc
     exact sim_len hs hop hcal (hargs ha) (htys ht) (.inr (.inr ⟨rfl,k,el,hu⟩)) h
    ·cases hc
   ·rename_i s x t u ha ht
    simp only [Option.bind_eq_some_iff] at hc
    obtain ⟨el,hel,i,hi,hc⟩:=hc
    split at hc
    ·rename_i el2 hu2
     cases hc
     exact sim_app (hfr rfl) hs hop hcal (hargs ha) (htys ht) hel ⟨el2,hu2⟩ hi h
    ·rename_i hu2
     cases hc
     exact sim_appz (hfr rfl) hs hop hcal (hargs ha) (htys ht) hel hu2 hi h
    ·cases hc
   ·rename_i d x t u ha ht
    simp only [Option.bind_eq_some_iff] at hc
    obtain ⟨el,hel,i,hi,hc⟩:=hc
    split at hc
    ·rename_i el2 hu2
     cases hc
     exact sim_copy hs hop hcal (hargs ha) (htys ht) hel hi h
    ·cases hc
   ·rename_i x t ha ht
    split at hc
    ·rename_i el hu
     cases hc
     exact sim_cap hs hop hcal (hargs ha) (htys ht) hu h
    ·cases hc
   ·split at hc
    ·cases hc
     simp [opS] at h
    ·cases hc
   ·rename_i x t ha ht
    simp only [Option.bind_eq_some_iff,Option.map_eq_some_iff] at hc
    obtain ⟨el,hel,i,hi,rfl⟩:=hc
    exact sim_clr hs hop hcal (hargs ha) (htys ht) hel hi h
   ·rename_i x y _ ha
    split at hc
    ·cases hc
     simp only [opS] at h
     split at h
     ·rename_i k p k' q hx hy
      simp only [Option.some.injEq,Prod.mk.injEq] at h
      obtain ⟨rfl,rfl⟩:=h
      exact sim_mx hs hop hcal (hargs ha) hx hy
     ·cases h
    ·cases hc
   ·rename_i x y _ ha
    split at hc
    ·cases hc
     simp only [opS] at h
     split at h
     ·rename_i k p k' q hx hy
      simp only [Option.some.injEq,Prod.mk.injEq] at h
      obtain ⟨rfl,rfl⟩:=h
      exact sim_mn hs hop hcal (hargs ha) hx hy
     ·cases h
    ·cases hc
   ·cases hc
 | range t x =>
  simp only [compOp] at hc
  split at hc
  ·cases hc
   simp [opS] at h
  ·cases hc
 | next x b =>
  cases b with
  | true => simp [compOp] at hc
  | false =>
   simp only [compOp,Option.some.injEq] at hc
   subst hc
   simp [opS] at h
 | entry x =>
  simp only [compOp,Option.some.injEq] at hc
  subst hc
  simp [opS] at h
 | _ => simp [compOp] at hc
end
end Go.VI
namespace Go.VI
variable {P : Program}
structure VRs (m : Mp) (F : Fz) (asx : List AV) (vs : Array Value) : Prop where
 len : vs.size = asx.length
 val : ∀ (i : Nat) (c : AV),asx[i]? = some c → VR m F c (vs.getD i undef)
structure Grew (n : Nat) (m m' : Mp) (H' : Heap) : Prop where
 dom : ∀ id mb,m' id = some mb → m id = some mb ∨ n ≤ id
 le : n ≤ H'.next
theorem Grew.refl (m : Mp) (H : Heap) : Grew H.next m m H:=⟨fun _ _ h => .inl h,Nat.le_refl _⟩
theorem Grew.trans {n : Nat} {m m' m'' : Mp} {H H' : Heap} (h : Grew n m m' H) (h' : Grew H.next m' m'' H') : Grew n m m'' H' :=
 ⟨fun id mb x => by
  rcases h'.dom id mb x with x | x
  ·exact h.dom id mb x
  ·exact .inr (Nat.le_trans h.le x),Nat.le_trans h.le h'.le⟩
def CallPost (P : Program) (m : Mp) (F : Fz) (H : Heap) (w : World) (r : AV) (H' : Heap) (en : Ending) (w' : World) : Prop :=
 ∃ u m' F',en = .returned u ∧ VR m' F' r u ∧ Inv P m' F' H' w' ∧ Ext m F w m' F' w' ∧ Grew H.next m m' H'
def PrimOk (P : Program) (k : FuncId) (p : List AV → Heap → Option (AV × Heap)) : Prop :=
 ∀ (args : List AV) (H H' : Heap) (r : AV),p args H = some (r,H') → ∀ (m : Mp) (F : Fz) (w : World) (vs : Array Value),Inv P m F H w → VRs m F args vs →
  ((callFunc k vs).run P w = .ok (.enter k vs) w ∧ Calls P k vs w (CallPost P m F H w r H')) ∨
  (∃ u w',(callFunc k vs).run P w = .ok (.value u) w' ∧ CallPost P m F H w r H' (.returned u) w')
def PPrimOk (P : Program) (k : FuncId) (p : List AV → Option AV) : Prop :=
 ∀ (args : List AV) (r : AV),p args = some r → ∀ (m : Mp) (F : Fz) (H : Heap) (w : World) (vs : Array Value),Inv P m F H w → vs.size = args.length → (∀ (i : Nat) (c : AV),args[i]? = some c → VF F c (vs.getD i undef)) →
  ((callFunc k vs).run P w = .ok (.enter k vs) w ∧ Calls P k vs w (CallPost P m F H w r H)) ∨
  (∃ u w',(callFunc k vs).run P w = .ok (.value u) w' ∧ CallPost P m F H w r H (.returned u) w')
def DPrimOk (P : Program) (k : FuncId) (p : List AV → Heap → (AV → Heap → Prop) → Prop) : Prop :=
 ∀ (args : List AV) (H : Heap) (K : AV → Heap → Prop),p args H K → ∀ (m : Mp) (F : Fz) (w : World) (vs : Array Value),Inv P m F H w → VRs m F args vs →
  (callFunc k vs).run P w = .ok (.enter k vs) w ∧ Calls P k vs w fun en w' => ∃ r H',K r H' ∧ CallPost P m F H w r H' en w'
def FTOk (P : Program) (ft : FT) : Prop:=∀ (k : FuncId) (d : FDef),ft k = some d → match d with
 | .go _ n rs body => ∃ fn c,P.funcs[k]? = some fn ∧ (fn.name == "runtime.NumGoroutine") = false ∧ fn.body = some c ∧ compC P c = some body ∧ fn.ntmps = n ∧ fn.results.toList.mapM (compRes P) = some rs
 | .prim p => PrimOk P k p
 | .pprim p => PPrimOk P k p
 | .dprim p => DPrimOk P k p
 | .eprim p => PrimOk P k fun args H => (p args H.next).map fun (r,L) => (r,⟨H.bs ++ L⟩)
def exR : AExit → Exit → Prop
 | .normal,X => X = .normal
 | .exit id,X => X = .exit id
 | .ret,X => X = .ret
structure Marks (b0 : Nat) (m : Mp) (w : World) (ds : List Deferred) : Prop where
 all : ∀ d ∈ ds,∃ D,d = { target:=.collected D,args:=#[] } ∧ w.heap[D]? = some (.deferred (some [])) ∧ b0 ≤ D ∧ ∀ id mb,m id = some mb → mb.cb ≠ D
 two : ds.Pairwise fun d d' => ∀ D D',d.target = .collected D → d'.target = .collected D' → D ≠ D'
theorem Marks.nil (b0 : Nat) (m : Mp) (w : World) : Marks b0 m w []:=⟨by simp,by simp⟩
theorem Marks.ext {b0 : Nat} {m m' : Mp} {F F' : Fz} {w w' : World} {ds : List Deferred} (h : Marks b0 m w ds) (hE : Ext m F w m' F' w') : Marks b0 m' w' ds :=
 ⟨fun d hd => by
  obtain ⟨D,h1,h2,h3,h4⟩:=h.all d hd
  have hlt:=(Array.getElem?_eq_some_iff.1 h2).1
  refine ⟨D,h1,(hE.blk D hlt h4).trans h2,h3,fun id mb hm e => ?_⟩
  rcases hE.mn id mb hm with h | h | ⟨i0,m0,h,h'⟩
  ·exact h4 _ _ h e
  ·omega
  ·exact h4 _ _ h (h'.trans e),h.two⟩
def CodePost (P : Program) (b0 : Nat) (m : Mp) (F : Fz) (H : Heap) (w : World) (x : AExit) (e' : Env) (H' : Heap) (X : Exit) (a' : Act) (w' : World) : Prop :=
 exR x X ∧ ∃ m' F',Sit P m' F' H' w' e' a' ∧ Ext m F w m' F' w' ∧ Marks b0 m' w' a'.defers ∧ Grew H.next m m' H'
def Wd (ro : Option Nat) : Fence:={ Fence.wide with round:=ro }
theorem callsIn_Wd {ro : Option Nat} {n : Nat} {P : Program} {f : FuncId} {args : Array Value} {w : World} {R : Ending → World → Prop} : CallsIn (Wd ro) n P f args w R ↔ Calls P f args w R:=callsIn_wide
section
variable {P : Program}
def RW (P : Program) (ro : Option Nat) (c : Code) (Q : Exit → Act → World → Prop) (a : Act) (w : World) : Prop :=
 ∀ (b : Frame) (k : List Item) (cs : List Frame),b.roundOf = ro → ∃ e a' w',Q e a' w' ∧ ArrivesIn (Machine.fenced P (Wd ro)) P (lone (b.atR a (.code c :: .inLoop c :: k)) cs w) b k cs e a' w'
theorem Wd_calm {P : Program} {ro : Option Nat} (m : Machine) : m.fenced P (Wd ro):=fenced_wide P m
theorem Wd_room {ro : Option Nat} (n : Nat) : (Wd ro).room n:=room_wide n
theorem wp_of_RW {ro : Option Nat} {c : Code} {Q : Exit → Act → World → Prop} {a : Act} {w : World} (h : RW P ro c Q a w) : (Code.loop c).wpIn (Wd ro) 0 P Q a w:=fun b k cs hro _ _ => by
 obtain ⟨e,a',w',hq,harr⟩:=h b k cs hro
 exact ⟨e,a',w',hq,.of_steps (.one (Wd_calm _) stepR_loop) harr⟩
theorem RW_step {ro : Option Nat} {c : Code} {Q : Exit → Act → World → Prop} {a : Act} {w : World} (h : c.wpIn (Wd ro) 0 P (Exit.then (RW P ro c Q) Q) a w) : RW P ro c Q a w:=fun b k cs hro => by
 obtain ⟨e,a₁,w₁,hq,harr⟩:=h b (.inLoop c :: k) cs hro trivial (Wd_room _)
 cases e with
 | normal =>
  obtain ⟨e₂,a₂,w₂,hq₂,harr₂⟩:=hq b k cs hro
  exact ⟨e₂,a₂,w₂,hq₂,.of_steps (StepsIn.trans harr (.one (Wd_calm _) stepR_inLoop)) harr₂⟩
 | exit id => exact ⟨_,a₁,w₁,hq,.pass (x:=.inLoop c) rfl (fun _ _ => .inl (by simp)) harr⟩
 | goto l => exact ⟨_,a₁,w₁,hq,.pass (x:=.inLoop c) rfl (fun _ _ => .inl (by simp)) harr⟩
 | ret => exact ⟨_,a₁,w₁,hq,.pass (x:=.inLoop c) rfl (fun _ _ => .inl (by simp)) harr⟩
 | panic ch => exact ⟨_,a₁,w₁,hq,.pass (x:=.inLoop c) rfl (fun _ _ => .inl (by simp)) harr⟩
 | outgrown => exact ⟨_,a₁,w₁,hq,.pass (x:=.inLoop c) rfl (fun _ _ => .inl (by simp)) harr⟩
def CfOk (P : Program) (cf : CF) : Prop := ∀ (f : AV) (args : List AV) (H H' : Heap) (r : AV), cf f args H = some (r, H') → ∀ (m : Mp) (F : Fz) (w : World) (fv : Value) (vs : Array Value), Inv P m F H w → VR m F f fv → VRs m F args vs →
    (∃ k first caps, fv = .func (.func k) first caps ∧
      (((callFunc k (first ++ vs ++ caps)).run P w = .ok (.enter k (first ++ vs ++ caps)) w ∧ Calls P k (first ++ vs ++ caps) w (CallPost P m F H w r H')) ∨
       (∃ u w', (callFunc k (first ++ vs ++ caps)).run P w = .ok (.value u) w' ∧ CallPost P m F H w r H' (.returned u) w'))) ∨
    (∃ l fn tmps asg body, fv = .func (.yield l) #[] #[] ∧ (Instr.yield l vs).run P w = .ok (.round l fn tmps asg body) w ∧ RoundIn Fence.wide 0 P l fn tmps asg body w (CallPost P m F H w r H'))
theorem vr_tup0 {m : Mp} {F : Fz} {v : Value} (h : VR m F (.tup []) v) : ∃ us,v = .tuple us ∧ us.size = 0:=by
 cases h with
 | fz h =>
  cases h with
  | tup hl _ => exact ⟨_,rfl,hl⟩
 | tup hl _ => exact ⟨_,rfl,hl⟩
theorem wanted_eq {m : Mp} {F : Fz} {e : Env} {a : Act} (hE : EnvR m F e a.tmps) {ops : Array Oper} {o : Oper} (hk : knownA e (o.guard.map fun (j,b) => ((ops[j]?).bind (·.dst),b)) = true) :
  Region.wanted o (yielded ops a.tmps) = wantA e (o.guard.map fun (j,b) => ((ops[j]?).bind (·.dst),b)):=by
 unfold Region.wanted
 cases hg : o.guard with
 | none => rfl
 | some g =>
  obtain ⟨j,b⟩:=g
  rw [hg] at hk
  simp only [Option.map_some] at hk ⊢
  cases hd : (ops[j]?).bind (·.dst) with
  | none => simp [wantA,yielded,hd]
  | some t =>
   rw [hd] at hk
   simp only [knownA] at hk
   simp only [wantA,yielded,hd,Option.bind_some]
   split at hk
   ·rename_i c hc
    have hv:=hE.val t
    rw [hc] at hv
    obtain ⟨he,_⟩:=vr_sc hv
    have ht : a.tmps[t]? = some (.bool c):=by
     simp only [Array.getD_eq_getD_getElem?] at he
     cases h : a.tmps[t]? with
     | none => rw [h] at he; cases he
     | some q => rw [h] at he; exact congrArg some he
    simp only [ht,hc]
    cases c <;> cases b <;> rfl
   ·rename_i hc
    have hv:=hE.val t
    rw [hc] at hv
    obtain ⟨us,hu,hs⟩:=vr_tup0 hv
    have ht : (a.tmps[t]?).getD undef = .tuple us:=by
     simpa only [Array.getD_eq_getD_getElem?] using hu
    simp only [hc]
    cases h : a.tmps[t]? with
    | none => rfl
    | some q =>
     rw [h] at ht
     have : q = .tuple us:=ht
     subst this
     rfl
   ·cases hk
theorem put_defers (a : Act) (d : Option Nat) (v : Value) : (a.put d v).defers = a.defers:=by cases d <;> rfl
theorem compOp_call {ty : TypeId} {op : Op} {f : Operand} {args : List Operand} (h : compOp P ty op = some (.call f args)) : ∃ c,op = .call c ∧ c.callee = .value f ∧ c.args.toList = args:=by
 cases op with
 | call c =>
  refine ⟨c,rfl,?_⟩
  simp only [compOp] at h
  split at h
  ·rename_i g hg
   cases h
   exact ⟨hg,rfl⟩
  ·cases h
  ·exfalso
   split at h
   ·split at h <;> cases h
   ·simp only [Option.bind_eq_some_iff] at h
    obtain ⟨el,_,i,_,h⟩:=h
    split at h <;> cases h
   ·simp only [Option.bind_eq_some_iff] at h
    obtain ⟨el,_,i,_,h⟩:=h
    split at h <;> cases h
   ·split at h <;> cases h
   ·split at h <;> cases h
   ·simp only [Option.bind_eq_some_iff,Option.map_eq_some_iff] at h
    obtain ⟨el,_,i,_,h⟩:=h
    cases h
   ·split at h <;> cases h
   ·split at h <;> cases h
   ·cases h
 | binOp op t x y ty =>
  exfalso
  simp only [compOp] at h
  have key : (if isBoolT P t then some (AOp.eqb (isNeq op) x y) else if scalarT P t then some (.bin op t x y) else match nilable P t with
    | some kd => if isNilC kd y then some (.isnil (isNeq op) kd x) else if isNilC kd x then some (.isnil (isNeq op) kd y) else none
    | none => (flatS P t).map fun ks => .eqs (isNeq op) ks x y) ≠ some (.call f args):=by
   split
   ·simp
   ·split
    ·simp
    ·split
     ·split
      ·simp
      ·split <;> simp
     ·simp [Option.map_eq_some_iff]
  cases op <;> first
   | exact key h
   | cases h
 | makeMap t r =>
  cases r <;> simp [compOp,Option.map_eq_some_iff] at h
 | build t parts =>
  exfalso
  simp only [compOp,Option.bind_eq_some_iff] at h
  obtain ⟨i,_,h⟩:=h
  split at h
  ·split at h
   ·simp [Option.map_eq_some_iff] at h
   ·cases h
  ·simp [Option.map_eq_some_iff] at h
  ·cases h
 | next x b => cases b <;> simp [compOp] at h
 | _ =>
  exfalso
  simp only [compOp] at h
  revert h
  repeat' split
  all_goals simp [Option.bind_eq_some_iff,Option.map_eq_some_iff]
theorem frz_next : ∀ (n : Nat),(∀ (H H' : Heap) (v v' : AV),frz n H v = some (v',H') → H'.next = H.next) ∧ (∀ (H H' : Heap) (cs cs' : List AV),frz.frzL n H cs = some (cs',H') → H'.next = H.next):=by
 intro n
 induction n with
 | zero => exact ⟨fun H H' v v' h => by simp [frz] at h,fun H H' cs cs' h => by simp [frz.frzL] at h⟩
 | succ n ih =>
  obtain ⟨ih1,ih2⟩:=ih
  refine ⟨fun H H' v v' h => ?_,fun H H' cs cs' h => ?_⟩
  ·cases v with
   | bad => simp [frz] at h
   | sc v =>
    simp only [frz] at h
    split at h <;> (cases h; rfl)
   | lst rows => simp only [frz] at h; cases h; rfl
   | emp => simp only [frz] at h; cases h; rfl
   | pim rows i off => simp only [frz] at h; cases h; rfl
   | agg cs =>
    simp only [frz,Option.map_eq_some_iff] at h
    obtain ⟨⟨a,b⟩,h,h'⟩:=h
    cases h'
    exact ih2 _ _ _ _ h
   | tup cs =>
    simp only [frz,Option.map_eq_some_iff] at h
    obtain ⟨⟨a,b⟩,h,h'⟩:=h
    cases h'
    exact ih2 _ _ _ _ h
   | fn f a b =>
    simp only [frz,Option.bind_eq_bind,Option.bind_eq_some_iff] at h
    obtain ⟨⟨x,H1⟩,hx,⟨y,H2⟩,hy,h⟩:=h
    cases h
    exact (ih2 _ _ _ _ hy).trans (ih2 _ _ _ _ hx)
   | sl id off len =>
    simp only [frz] at h
    split at h
    ·split at h
     ·cases h
      split
      ·rfl
      ·simp
     ·cases h
    ·cases h
   | ptr id i off =>
    simp only [frz] at h
    split at h
    ·cases h
     split
     ·rfl
     ·simp
    ·split at h
     ·cases h; rfl
     ·cases h
    ·split at h
     ·simp only [Option.bind_eq_bind,Option.bind_eq_some_iff] at h
      obtain ⟨⟨x,H1⟩,hx,h⟩:=h
      split at h
      ·cases h
       rw [Heap.next_set]
       exact ih2 _ _ _ _ hx
      ·cases h
     ·cases h
    ·cases h
   | mp id => simp [frz] at h
   | yld id => simp [frz] at h
  ·cases cs with
   | nil => simp only [frz.frzL] at h; cases h; rfl
   | cons c cs =>
    simp only [frz.frzL,Option.bind_eq_bind,Option.bind_eq_some_iff] at h
    obtain ⟨⟨x,H1⟩,hx,⟨y,H2⟩,hy,h⟩:=h
    cases h
    exact (ih2 _ _ _ _ hy).trans (ih1 _ _ _ _ hx)
theorem fillR_next {sz : Nat} : ∀ (ps : List (Nat × AV)) (rs rs' : List (List AV)) (H H' : Heap),fillR sz rs H ps = some (rs',H') → H'.next = H.next
 | [],rs,rs',H,H',h => by simp only [fillR] at h; cases h; rfl
 | (i,v) :: ps,rs,rs',H,H',h => by
  simp only [fillR] at h
  split at h
  ·simp only [Option.bind_eq_some_iff] at h
   obtain ⟨⟨cs,H1⟩,h1,h⟩:=h
   exact (fillR_next ps _ _ _ _ h).trans ((frz_next FZ).2 _ _ _ _ h1)
  ·cases h
theorem storeA_next {H H' : Heap} {p v : AV} {n : Nat} (h : storeA H p n v = some H') : H'.next = H.next:=by
 unfold storeA at h
 split at h
 ·split at h
  ·split at h
   ·split at h
    ·cases h; simp
    ·cases h
   ·simp only [Option.bind_eq_some_iff] at h
    obtain ⟨⟨cs,H1⟩,h1,h⟩:=h
    split at h
    ·split at h
     ·split at h
      ·cases h
       rw [Heap.next_set]
       exact (frz_next FZ).2 _ _ _ _ h1
      ·cases h
     ·cases h
    ·cases h
   ·cases h
  ·cases h
 ·cases h
theorem clrA_next {H H' : Heap} {sz : Nat} {z : List AV} {d : AV} (h : clrA H sz z d = some H') : H'.next = H.next:=by
 unfold clrA at h
 split at h
 ·split at h
  ·split at h
   ·cases h; simp
   ·cases h
  ·cases h
 ·split at h
  ·cases h; rfl
  ·cases h
theorem opS_next {nid : Nat} {e : Env} {H H' : Heap} {o : AOp} {v : AV} (h : opS nid e H o = some (v, H')) : H.next ≤ H'.next := by
  cases o with
  | bslice sz z len ps =>
    simp only [opS, Option.map_eq_some_iff] at h
    obtain ⟨⟨rs, H1⟩, h1, h⟩ := h
    cases h
    rw [← fillR_next _ _ _ _ _ h1]
    exact Heap.next_put_le _ _ _
  | store n a x =>
    simp only [opS, Option.map_eq_some_iff] at h
    obtain ⟨H1, h1, h⟩ := h
    cases h
    exact Nat.le_of_eq (storeA_next h1).symm
  | app sz b s x =>
    simp only [opS, Option.bind_eq_some_iff] at h
    obtain ⟨xs, _, h⟩ := h
    unfold appA at h
    split at h
    · split at h
      · cases h; exact Nat.le_refl _
      · split at h
        · cases h; exact Heap.next_put_le _ _ _
        · cases h
    · split at h
      · split at h
        · split at h
          · cases h; simp
          · cases h
            refine Nat.le_trans ?_ (Heap.next_put_le _ _ _)
            simp
        · cases h
      · cases h
    · split at h
      · cases h; exact Nat.le_refl _
      · split at h
        · cases h; exact Heap.next_put_le _ _ _
        · cases h
    · cases h
  | appz sz b z s x =>
    simp only [opS] at h
    split at h
    rotate_left
    · cases h
    split at h
    rotate_left
    · cases h
    unfold appA at h
    split at h
    · split at h
      · cases h; exact Nat.le_refl _
      · split at h
        · cases h; exact Heap.next_put_le _ _ _
        · cases h
    · split at h
      · split at h
        · split at h
          · cases h; simp
          · cases h
            refine Nat.le_trans ?_ (Heap.next_put_le _ _ _)
            simp
        · cases h
      · cases h
    · split at h
      · cases h; exact Nat.le_refl _
      · split at h
        · cases h; exact Heap.next_put_le _ _ _
        · cases h
    · cases h
  | copy sz d s =>
    simp only [opS, Option.bind_eq_some_iff] at h
    obtain ⟨xs, _, h⟩ := h
    simp only [Option.map_eq_some_iff] at h
    obtain ⟨⟨n, H1⟩, h1, h⟩ := h
    cases h
    unfold copyA at h1
    split at h1
    · split at h1
      · split at h1
        · cases h1; simp
        · cases h1
      · cases h1
    · split at h1
      · cases h1; exact Nat.le_refl _
      · cases h1
  | clr sz z x =>
    simp only [opS, Option.map_eq_some_iff] at h
    obtain ⟨H1, h1, h⟩ := h
    cases h
    exact Nat.le_of_eq (clrA_next h1).symm
  | mput kd mo k v =>
    simp only [opS] at h
    split at h
    · split at h
      · split at h
        · cases h; simp
        · cases h
      · cases h
    · cases h
  | _ =>
    simp only [opS] at h
    repeat' first
      | (cases h; first | exact Nat.le_refl _ | exact Heap.next_put_le _ _ _)
      | split at h
      | (simp only [Option.bind_eq_some_iff, Option.map_eq_some_iff, Prod.mk.injEq] at h
         obtain ⟨_, _, h⟩ := h)
      | (obtain ⟨_, h⟩ := h)
    all_goals first
      | (subst h; exact Nat.le_refl _)
      | skip
structure OpDom (nid : Nat) (o : AOp) (n : Nat) (m m' : Mp) (H' : Heap) : Prop where
 dom : ∀ id mb,m' id = some mb → m id = some mb ∨ alOf nid o = some id ∨ n ≤ id
 le : n ≤ H'.next
theorem OpDom.grew {o : AOp} {m m' : Mp} {H H' : Heap} (h : OpDom H.next o H.next m m' H') : Grew H.next m m' H' :=
 ⟨fun id mb x => by
  rcases h.dom id mb x with x | x | x
  ·exact .inl x
  ·unfold alOf at x
   split at x
   ·cases x; exact .inr (Nat.le_refl _)
   ·cases x
  ·exact .inr x,h.le⟩
theorem oper_sound {cf : CF} (hcf : CfOk P cf) {ops : Array Oper} {o : Oper} {ao : AOper} (hc : compOper P ops o = some ao) {m : Mp} {F : Fz} {H H' : Heap} {w : World} {e e' : Env} {a : Act} {nid : Nat} {ro : Option Nat} {ds : List Deferred} (hfr : allocA ao.op = true → Free m H nid) (hs : Sit P m F H w e a) (hd : a.defers = ds)
  (h : oper cf nid ao e H = some (e',H')) {next : Act → World → Prop} {Q : Exit → Act → World → Prop}
  (hn : ∀ a' w' m' F',Sit P m' F' H' w' e' a' → Ext m F w m' F' w' → a'.defers = ds → OpDom nid ao.op H.next m m' H' → next a' w') :
  if Region.wanted o (yielded ops a.tmps) = true then o.wpIn (Wd ro) 0 P a w next Q else next (a.put o.dst undef) w:=by
 simp only [compOper,Option.some.injEq] at hc
 subst hc
 generalize hop : (compOp P o.type o.op).getD .stop = op at *
 unfold oper at h
 split at h
 rotate_left
 ·cases h
 rename_i hk
 rw [wanted_eq hs.env hk]
 split at h
 ·rename_i hw
  rw [if_pos hw]
  simp only [Option.map_eq_some_iff,Prod.mk.injEq] at h
  obtain ⟨⟨v,H1⟩,hv,rfl,rfl⟩:=h
  have fin : ∀ (u : Value) (m' : Mp) (F' : Fz) (w' : World),VR m' F' v u → Inv P m' F' H1 w' → Ext m F w m' F' w' → OpDom nid op H.next m m' H1 → next (a.put o.dst u) w':=fun u m' F' w' h1 h2 h3 h4 =>
   hn _ w' m' F' ⟨h2,(hs.env.mono h3.mm h3.ff).put o.dst h1⟩ h3 (by rw [put_defers]; exact hd) h4
  have hne : op ≠ .stop:=fun h => by subst h; simp [opC,opS] at hv
  replace hop : compOp P o.type o.op = some op:=by
   cases hx : compOp P o.type o.op with
   | none => rw [hx] at hop; exact absurd hop.symm hne
   | some y => rw [hx] at hop; exact congrArg some hop
  have hsem : o.semAt (Wd ro).round a.eval = execOp a.eval o:=Oper.semAt_eq _ _ _ (fun c hc => by rw [hc] at hop; simp [compOp] at hop)
  have hab : ∀ f,o.about P w a.eval = some f → (Wd ro).fn f:=fun _ _ => trivial
  have hdp : (Wd ro).depth.isSome = true → 1 ≤ 0:=by simp [Wd,Fence.wide]
  by_cases hcall : ∃ f args,op = .call f args
  ·obtain ⟨f,args,rfl⟩:=hcall
   simp only [opC] at hv
   have hco:=compOp_call hop
   obtain ⟨c,ho,hcal,harg⟩:=hco
   have hcase:=hcf _ _ H H1 v hv m F w (a.eval f) (c.args.map a.eval) hs.inv (hs.ev f) ⟨by rw [← harg]; simp,fun i q hq => by
    rw [← harg,List.getElem?_map,Option.map_eq_some_iff] at hq
    obtain ⟨x,hx,rfl⟩:=hq
    rw [getD_of (v:=a.eval x) (by simpa using ⟨x,by simpa using hx,rfl⟩)]
    exact hs.ev x⟩
   have hgd : ∀ {m' : Mp},Grew H.next m m' H1 → OpDom nid (.call f args) H.next m m' H1:=fun h5 => ⟨fun id mb x => (h5.dom id mb x).imp_right .inr,h5.le⟩
   refine ⟨hab,?_⟩
   rw [hsem]
   rcases hcase with ⟨k,first,caps,hfv,hcase⟩ | ⟨l,fn,tmps,asg,body,hfv,hy,hround⟩
   ·have hrun : (execOp a.eval o).run P w = (callFunc k (first ++ c.args.map a.eval ++ caps)).run P w:=by
     simp [execOp,ho,resolve,hcal,hfv,Deferred.ofValue,invoke]
    rw [hrun]
    rcases hcase with ⟨h1,h2⟩ | ⟨u,w',h1,u',m',F',hu,h2,h3,h4,h5⟩
    ·rw [h1]
     refine ⟨hdp,callsIn_Wd.2 (h2.mono fun en w' hp => ?_)⟩
     obtain ⟨u,m',F',rfl,h2,h3,h4,h5⟩:=hp
     exact fin u m' F' w' h2 h3 h4 (hgd h5)
    ·rw [h1]
     cases hu
     exact fin u m' F' w' h2 h3 h4 (hgd h5)
   ·have hrun : (execOp a.eval o).run P w = (Instr.yield l (c.args.map a.eval)).run P w:=by
     simp [execOp,ho,resolve,hcal,hfv,Deferred.ofValue,invoke]
    rw [hrun,hy]
    refine ⟨hdp,?_⟩
    show RoundIn Fence.wide (0 - 1) P l fn tmps asg body w _
    refine hround.mono fun en w' hp => ?_
    obtain ⟨u,m',F',rfl,h2,h3,h4,h5⟩:=hp
    exact fin u m' F' w' h2 h3 h4 (hgd h5)
  ·have hnc : ∀ f args,op ≠ .call f args:=fun f args e => hcall ⟨f,args,e⟩
   have hv' : opS nid e H op = some (v,H1):=by
    unfold opC at hv
    split at hv
    ·exact absurd rfl (hnc _ _)
    ·exact hv
   obtain ⟨nx,u,m',F',w',hr,hnx,h1,h2,h3,h4⟩:=opS_sound hs hfr hop hnc hv'
   have h5 : OpDom nid op H.next m m' H1:=⟨fun id mb x => (h4 id mb x).imp_right .inl,opS_next hv'⟩
   refine ⟨hab,?_⟩
   rw [hsem,hr]
   rcases hnx with rfl | ⟨rfl,rfl⟩
   ·exact fin u m' F' w' h1 h2 h3 h5
   ·exact fin undef m' F' w' h1 h2 h3 h5
 ·rename_i hw
  rw [if_neg hw]
  simp only [Option.some.injEq,Prod.mk.injEq] at h
  obtain ⟨rfl,rfl⟩:=h
  exact hn _ w m F ⟨hs.inv,hs.env.put o.dst (.tup rfl (by simp))⟩ (Ext.refl m F w) (by rw [put_defers]; exact hd) ⟨fun _ _ h => .inl h,Nat.le_refl _⟩
end
end Go.VI
namespace Go.VI
structure Loc (T : List Nat) (H H' H2 H2' : Heap) : Prop where
 on : ∀ id ∈ T,H2'.get id = H'.get id
 off2 : ∀ id,id ∉ T → H2'.get id = H2.get id
 off : ∀ id,id ∉ T → H'.get id = H.get id
 nx : H'.next = H.next
 nx2 : H2'.next = H2.next
theorem Loc.still {T : List Nat} {H H2 : Heap} (h : ∀ id ∈ T,H2.get id = H.get id) : Loc T H H H2 H2:=⟨h,fun _ _ => rfl,fun _ _ => rfl,rfl,rfl⟩
theorem Loc.trans {T : List Nat} {H H1 H' H2 H21 H2' : Heap} (h : Loc T H H1 H2 H21) (h' : Loc T H1 H' H21 H2') : Loc T H H' H2 H2' :=
 ⟨h'.on,fun id hi => (h'.off2 id hi).trans (h.off2 id hi),fun id hi => (h'.off id hi).trans (h.off id hi),h'.nx.trans h.nx,h'.nx2.trans h.nx2⟩
theorem lt_of_get {H H2 : Heap} {id : Nat} (h : H2.get id = H.get id) (hl : id < H.next) : id < H2.next:=by
 have : H.get id = some (H.bs[id]'hl):=List.getElem?_eq_getElem hl
 rw [this] at h
 exact Heap.get_lt h
theorem Loc.set {T : List Nat} {H H2 : Heap} {id : Nat} (B : Blk) (h : ∀ id ∈ T,H2.get id = H.get id) (hi : id ∈ T) (hl : id < H.next) : Loc T H (H.set id B) H2 (H2.set id B):=by
 have h2:=lt_of_get (h id hi) hl
 refine ⟨fun j hj => ?_,fun j hj => ?_,fun j hj => ?_,Heap.next_set _ _ _,Heap.next_set _ _ _⟩
 ·by_cases e : j = id
  ·subst e
   rw [Heap.get_set_self _ hl,Heap.get_set_self _ h2]
  ·rw [Heap.get_set_ne _ e,Heap.get_set_ne _ e]
   exact h j hj
 ·exact Heap.get_set_ne _ (fun e => hj (e ▸ hi))
 ·exact Heap.get_set_ne _ (fun e => hj (e ▸ hi))
theorem put_set {H : Heap} {id : Nat} (B : Blk) (h : id < H.next) : H.put id B = H.set id B:=by simp [Heap.put,h]
theorem Loc.put {T : List Nat} {H H2 : Heap} {id : Nat} (B : Blk) (h : ∀ id ∈ T,H2.get id = H.get id) (hi : id ∈ T) (hl : id < H.next) : Loc T H (H.put id B) H2 (H2.put id B):=by
 rw [put_set B hl,put_set B (lt_of_get (h id hi) hl)]
 exact .set B h hi hl
theorem cellsAt_congr {H H2 : Heap} {p : AV} (h : ∀ id ∈ shId p,H2.get id = H.get id) (n : Nat) : cellsAt H2 p n = cellsAt H p n:=by
 cases p with
 | ptr id i off => simp only [cellsAt,h id (by simp [shId])]
 | _ => rfl
theorem rowsOf_congr {H H2 : Heap} {p : AV} (h : ∀ id ∈ shId p,H2.get id = H.get id) : rowsOf H2 p = rowsOf H p:=by
 cases p with
 | sl id off len => simp only [rowsOf,h id (by simp [shId])]
 | sc v =>
  unfold rowsOf
  split <;> simp_all
 | _ => rfl
theorem rowSz_congr {H H2 : Heap} {id : Nat} (h : H2.get id = H.get id) : rowSz H2 id = rowSz H id:=by simp only [rowSz,h]
theorem frz_closed : ∀ (n : Nat),(∀ (v v' : AV) (H0 : Heap),frz n Heap.empty v = some (v',H0) → H0 = Heap.empty ∧ ∀ H,frz n H v = some (v',H)) ∧
  (∀ (cs cs' : List AV) (H0 : Heap),frz.frzL n Heap.empty cs = some (cs',H0) → H0 = Heap.empty ∧ ∀ H,frz.frzL n H cs = some (cs',H)):=by
 intro n
 have hget : ∀ id,Heap.empty.get id = none:=fun id => rfl
 induction n with
 | zero => exact ⟨fun v v' H' h => by simp [frz] at h,fun cs cs' H' h => by simp [frz.frzL] at h⟩
 | succ n ih =>
  obtain ⟨ih1,ih2⟩:=ih
  refine ⟨fun v v' H0 h => ?_,fun cs cs' H0 h => ?_⟩
  ·cases v with
   | bad => simp [frz] at h
   | sc v =>
    simp only [frz] at h ⊢
    split at h
    ·cases h; exact ⟨rfl,fun H => by simp⟩
    ·cases h; exact ⟨rfl,fun H => by simp⟩
   | lst rows => simp only [frz] at h ⊢; cases h; exact ⟨rfl,fun _ => rfl⟩
   | emp => simp only [frz] at h ⊢; cases h; exact ⟨rfl,fun _ => rfl⟩
   | pim rows i off => simp only [frz] at h ⊢; cases h; exact ⟨rfl,fun _ => rfl⟩
   | agg cs =>
    simp only [frz,Option.map_eq_some_iff] at h ⊢
    obtain ⟨⟨a,b⟩,h,h'⟩:=h
    cases h'
    obtain ⟨h1,h2⟩:=ih2 _ _ _ h
    exact ⟨h1,fun H => ⟨_,h2 H,rfl⟩⟩
   | tup cs =>
    simp only [frz,Option.map_eq_some_iff] at h ⊢
    obtain ⟨⟨a,b⟩,h,h'⟩:=h
    cases h'
    obtain ⟨h1,h2⟩:=ih2 _ _ _ h
    exact ⟨h1,fun H => ⟨_,h2 H,rfl⟩⟩
   | fn f a b =>
    simp only [frz,Option.bind_eq_bind,Option.bind_eq_some_iff] at h ⊢
    obtain ⟨⟨x,H1⟩,hx,⟨y,H2⟩,hy,h⟩:=h
    cases h
    obtain ⟨rfl,h2⟩:=ih2 _ _ _ hx
    obtain ⟨rfl,h4⟩:=ih2 _ _ _ hy
    exact ⟨rfl,fun H => ⟨_,h2 H,_,h4 H,rfl⟩⟩
   | sl id off len => simp [frz,hget] at h
   | ptr id i off => simp [frz,hget] at h
   | mp id => simp [frz] at h
   | yld id => simp [frz] at h
  ·cases cs with
   | nil => simp only [frz.frzL] at h ⊢; cases h; exact ⟨rfl,fun _ => rfl⟩
   | cons c cs =>
    simp only [frz.frzL,Option.bind_eq_bind,Option.bind_eq_some_iff] at h ⊢
    obtain ⟨⟨x,H1⟩,hx,⟨y,H2⟩,hy,h⟩:=h
    cases h
    obtain ⟨rfl,h2⟩:=ih1 _ _ _ hx
    obtain ⟨rfl,h4⟩:=ih2 _ _ _ hy
    exact ⟨rfl,fun H => ⟨_,h2 H,_,h4 H,rfl⟩⟩
theorem frz_sl_at (n : Nat) (K : Heap) (id off len : Nat) : frz (n + 1) K (.sl id off len) = match K.get id with
  | some (.row fz sz rs) => if off + len ≤ rs.length then some (.lst ((rs.drop off).take len),if fz then K else K.set id (.row true sz rs)) else none
  | _ => none:=rfl
theorem sidN_spec : ∀ (n : Nat) (vs : List AV) (t : List Nat),sidN n vs = some t → ∀ (H H1 H2 : Heap) (cs : List AV) (T : List Nat),(∀ id ∈ t,id ∈ T) → (∀ id ∈ T,H2.get id = H.get id) → frz.frzL n H vs = some (cs,H1) →
  ∃ H21,frz.frzL n H2 vs = some (cs,H21) ∧ Loc T H H1 H2 H21 ∧ (t = [] → H1 = H ∧ H21 = H2)
 | 0,vs,t,h => by simp [sidN] at h
 | n + 1,[],t,h => by
  intro H H1 H2 cs T ht hT hf
  cases h
  simp only [frz.frzL] at hf ⊢
  cases hf
  exact ⟨H2,rfl,.still hT,fun _ => ⟨rfl,rfl⟩⟩
 | n + 1,c :: vs,t,h => by
  intro H H1 H2 cs T ht hT hf
  simp only [sidN,Option.bind_eq_some_iff,Option.map_eq_some_iff] at h
  obtain ⟨ta,ha,tb,hb,rfl⟩:=h
  simp only [frz.frzL,Option.bind_eq_bind,Option.bind_eq_some_iff] at hf ⊢
  obtain ⟨⟨c1,K1⟩,hc,⟨cs1,K2⟩,hcs,hf⟩:=hf
  cases hf
  have hone : ∃ K21,frz n H2 c = some (c1,K21) ∧ Loc T H K1 H2 K21 ∧ (ta = [] → K1 = H ∧ K21 = H2):=by
   split at ha
   ·rename_i hcl
    cases ha
    rw [Option.isSome_iff_exists] at hcl
    obtain ⟨⟨v',H0⟩,hv⟩:=hcl
    have hv:=((frz_closed n).1 _ _ _ hv).2
    rw [hv] at hc
    cases hc
    exact ⟨H2,hv H2,.still hT,fun _ => ⟨rfl,rfl⟩⟩
   ·split at ha
    ·rename_i id off len _
     cases ha
     have hid:=ht id (by simp)
     have hg:=hT id hid
     cases n with
     | zero => simp [frz] at hc
     | succ n =>
      rw [frz_sl_at] at hc
      rw [frz_sl_at,hg]
      split at hc
      ·rename_i fz sz rs hb
       split at hc
       ·rename_i hh
        cases hc
        simp only [if_pos hh]
        cases fz with
        | true => exact ⟨_,rfl,.still hT,fun h => by simp at h⟩
        | false => exact ⟨_,rfl,.set _ hT hid (Heap.get_lt hb),fun h => by simp at h⟩
       ·cases hc
      ·cases hc
    ·cases ha
  obtain ⟨K21,hc2,hL,he⟩:=hone
  obtain ⟨K22,hcs2,hL2,he2⟩:=sidN_spec n vs tb hb _ _ _ _ T (fun id hi => ht id (by simp [hi])) hL.on hcs
  refine ⟨K22,⟨(c1,K21),hc2,(cs1,K22),hcs2,rfl⟩,hL.trans hL2,fun h => ?_⟩
  rw [List.append_eq_nil_iff] at h
  obtain ⟨rfl,rfl⟩:=he h.1
  exact he2 h.2
theorem sids_spec {vs : List AV} {t : List Nat} (h : sids vs = some t) {H H1 H2 : Heap} {cs : List AV} {T : List Nat} (ht : ∀ id ∈ t,id ∈ T) (hT : ∀ id ∈ T,H2.get id = H.get id) (hf : frzCells H vs = some (cs,H1)) :
  ∃ H21,frzCells H2 vs = some (cs,H21) ∧ Loc T H H1 H2 H21 ∧ (t = [] → H1 = H ∧ H21 = H2):=sidN_spec FZ vs t h _ _ _ _ T ht hT hf
theorem sidN_closed : ∀ (n : Nat) (vs : List AV),(frz.frzL n Heap.empty vs).isSome = true → sidN n vs = some []
 | 0,vs,h => by simp [frz.frzL] at h
 | n + 1,[],h => rfl
 | n + 1,c :: vs,h => by
  rw [Option.isSome_iff_exists] at h
  obtain ⟨⟨r,K⟩,h⟩:=h
  simp only [frz.frzL,Option.bind_eq_bind,Option.bind_eq_some_iff] at h
  obtain ⟨⟨c1,K1⟩,hc,⟨cs1,K2⟩,hcs,h⟩:=h
  obtain ⟨rfl,_⟩:=(frz_closed n).1 _ _ _ hc
  simp only [sidN,hc,Option.isSome_some,if_true,Option.bind_some,sidN_closed n vs (by rw [hcs]; rfl),Option.map_some,List.append_nil]
theorem sids_closed {vs : List AV} (h : closedL vs = true) : sids vs = some []:=sidN_closed FZ vs h
theorem fillR_sids {sz : Nat} : ∀ (ps : List (Nat × AV)) (t : List Nat) (rs rs' : List (List AV)) (H H' H2 : Heap) (T : List Nat),sidP ps = some t → (∀ id ∈ t,id ∈ T) → (∀ id ∈ T,H2.get id = H.get id) → fillR sz rs H ps = some (rs',H') →
  ∃ H21,fillR sz rs H2 ps = some (rs',H21) ∧ Loc T H H' H2 H21
 | [],t,rs,rs',H,H',H2,T,_,_,hT,h => by simp only [fillR] at h ⊢; cases h; exact ⟨H2,rfl,.still hT⟩
 | (i,v) :: ps,t,rs,rs',H,H',H2,T,hs,ht,hT,h => by
  simp only [sidP,Option.bind_eq_some_iff,Option.map_eq_some_iff] at hs
  obtain ⟨ta,ha,tb,hb,rfl⟩:=hs
  simp only [fillR] at h ⊢
  split at h
  ·rename_i hh
   simp only [Option.bind_eq_some_iff] at h
   obtain ⟨⟨cs,K1⟩,hf,h⟩:=h
   obtain ⟨K21,hf2,hL,_⟩:=sids_spec ha (T:=T) (fun id hi => ht id (by simp [hi])) hT hf
   obtain ⟨K22,h2,hL2⟩:=fillR_sids ps tb _ _ _ _ K21 T hb (fun id hi => ht id (by simp [hi])) hL.on h
   exact ⟨K22,by rw [if_pos hh,hf2]; exact h2,hL.trans hL2⟩
  ·cases h
def plain : AOp → Bool
 | .mov .. | .pick .. | .build .. | .nilck .. | .bin .. | .isnil .. | .eqs .. | .eqb .. | .un .. | .conv .. | .mkfn .. | .slstr .. | .faddr .. | .field .. | .index .. | .ext .. | .mx2 .. | .mn2 .. | .cap .. => true
 | _ => false
theorem opS_plain {nid : Nat} {e : Env} {H H' : Heap} {o : AOp} {v : AV} (hp : plain o = true) (h : opS nid e H o = some (v, H')) : H' = H ∧ ∀ H2 nid', opS nid' e H2 o = some (v, H2) := by
  cases o with
  | alloc => cases hp
  | box => cases hp
  | bslice => cases hp
  | load => cases hp
  | store => cases hp
  | stringish => cases hp
  | tostr => cases hp
  | mkslice => cases hp
  | slice => cases hp
  | iaddr => cases hp
  | len => cases hp
  | app => cases hp
  | appz => cases hp
  | copy => cases hp
  | clr => cases hp
  | mkmap => cases hp
  | look => cases hp
  | mput => cases hp
  | call => cases hp
  | _ =>
    simp only [opS] at h ⊢
    repeat' first
      | (cases h; done)
      | (cases h; exact ⟨rfl, fun _ _ => by simp_all⟩)
      | split at h
      | (simp only [Option.bind_eq_some_iff, Option.map_eq_some_iff, Prod.mk.injEq] at h
         obtain ⟨_, _, h⟩ := h)
      | (obtain ⟨rfl, rfl⟩ := h; exact ⟨rfl, fun _ _ => by simp_all⟩)
      | (obtain ⟨_, _, h⟩ := h)
theorem opS_local {pv : AV → List AV → FP} {nid : Nat} {e : Env} {H H' H2 : Heap} {o : AOp} {v : AV} {wr : Bool} {T : List Nat} (hnc : ∀ f args,o ≠ .call f args)
  (hf : fpS pv nid e o = some (wr,T)) (h : opS nid e H o = some (v,H')) (hT : ∀ id ∈ T,H2.get id = H.get id) (hnx : allocA o = true → nid < H.next) :
  ∃ H2',opS nid e H2 o = some (v,H2') ∧ Loc T H H' H2 H2' ∧ (wr = false → H' = H ∧ H2' = H2):=by
 have plain_ : plain o = true → T = [] → ∃ H2',opS nid e H2 o = some (v,H2') ∧ Loc T H H' H2 H2' ∧ (wr = false → H' = H ∧ H2' = H2):=fun hp ht => by
  obtain ⟨rfl,h2⟩:=opS_plain hp h
  exact ⟨H2,h2 H2 nid,.still hT,fun _ => ⟨rfl,rfl⟩⟩
 have reads : ∀ {x : AV},some (false,shId x) = some (wr,T) → (opS nid e H o = some (v,H') → H' = H) → opS nid e H2 o = (opS nid e H o).map (fun p => (p.1,H2)) →
   ∃ H2',opS nid e H2 o = some (v,H2') ∧ Loc T H H' H2 H2' ∧ (wr = false → H' = H ∧ H2' = H2):=fun _ h1 h2 => by
  obtain rfl:=h1 h
  rw [h] at h2
  exact ⟨H2,h2,.still hT,fun _ => ⟨rfl,rfl⟩⟩
 cases o with
 | alloc z =>
  simp only [fpS,Option.some.injEq,Prod.mk.injEq] at hf
  obtain ⟨rfl,rfl⟩:=hf
  simp only [opS,Option.some.injEq,Prod.mk.injEq] at h
  obtain ⟨rfl,rfl⟩:=h
  exact ⟨_,rfl,.put _ hT (by simp) (hnx rfl),by simp⟩
 | mkmap kd =>
  simp only [fpS,Option.some.injEq,Prod.mk.injEq] at hf
  obtain ⟨rfl,rfl⟩:=hf
  simp only [opS,Option.some.injEq,Prod.mk.injEq] at h
  obtain ⟨rfl,rfl⟩:=h
  exact ⟨_,rfl,.put _ hT (by simp) (hnx rfl),by simp⟩
 | box n x =>
  simp only [fpS,Option.some.injEq,Prod.mk.injEq] at hf
  obtain ⟨rfl,rfl⟩:=hf
  simp only [opS] at h ⊢
  split at h
  ·rename_i hh
   simp only [Option.some.injEq,Prod.mk.injEq] at h
   obtain ⟨rfl,rfl⟩:=h
   exact ⟨_,by rw [if_pos hh],.put _ hT (by simp) (hnx rfl),by simp⟩
  ·cases h
 | mkslice sz b z l c =>
  simp only [fpS,Option.some.injEq,Prod.mk.injEq] at hf
  obtain ⟨rfl,rfl⟩:=hf
  simp only [opS,Option.bind_eq_some_iff] at h ⊢
  obtain ⟨l',hl,c',hc,h⟩:=h
  split at h
  ·rename_i hh
   simp only [Option.some.injEq,Prod.mk.injEq] at h
   obtain ⟨rfl,rfl⟩:=h
   exact ⟨_,⟨l',hl,c',hc,by rw [if_pos hh]⟩,.put _ hT (by simp) (hnx rfl),by simp⟩
  ·cases h
 | bslice sz z len ps =>
  simp only [fpS,Option.map_eq_some_iff,Prod.mk.injEq] at hf
  obtain ⟨t,hs,rfl,rfl⟩:=hf
  simp only [opS,Option.map_eq_some_iff] at h ⊢
  obtain ⟨⟨rs,H1⟩,h1,h⟩:=h
  cases h
  obtain ⟨H21,h2,hL⟩:=fillR_sids _ t _ _ _ _ H2 (nid :: t) hs (fun id hi => List.mem_cons_of_mem _ hi) hT h1
  have hn : nid < H1.next:=by rw [fillR_next _ _ _ _ _ h1]; exact hnx rfl
  exact ⟨_,⟨(rs,H21),h2,rfl⟩,hL.trans (.put _ hL.on (by simp) hn),by simp⟩
 | load g n x =>
  have hT' : ∀ id ∈ shId (ev e x),H2.get id = H.get id:=by
   simp only [fpS,Option.some.injEq,Prod.mk.injEq] at hf
   exact hf.2 ▸ hT
  refine reads hf (fun h => ?_) ?_
  ·simp only [opS,Option.bind_eq_some_iff,Option.map_eq_some_iff] at h
   obtain ⟨_,_,_,_,h⟩:=h
   cases h; rfl
  ·simp only [opS,cellsAt_congr hT']
   cases cellsAt H (ev e x) n <;> simp
   rename_i cs
   cases pack g cs <;> rfl
 | store n a x =>
  simp only [fpS,Option.map_eq_some_iff,Prod.mk.injEq] at hf
  obtain ⟨t,hs,rfl,rfl⟩:=hf
  simp only [opS,Option.map_eq_some_iff] at h ⊢
  obtain ⟨H1,h,h'⟩:=h
  cases h'
  unfold storeA at h ⊢
  split at h
  rotate_left
  ·cases h
  rename_i hh
  rw [if_pos hh]
  split at h
  rotate_left
  ·cases h
  rename_i id i off hp
  rw [hp] at hT
  have hid : id ∈ shId (.ptr id i off) ++ t:=by simp [shId]
  have hg:=hT id hid
  simp only [hg]
  split at h
  ·rename_i cs hb
   split at h
   ·rename_i h2
    cases h
    refine ⟨_,⟨_,by rw [if_pos h2],rfl⟩,?_,by simp⟩
    rw [hp]
    exact .set _ hT hid (Heap.get_lt hb)
   ·cases h
  ·rename_i s1 rs1 hb
   rw [Option.bind_eq_some_iff] at h
   obtain ⟨⟨cs,H3⟩,hf,h⟩:=h
   obtain ⟨H23,hf2,hL,_⟩:=sids_spec hs (T:=shId (.ptr id i off) ++ t) (fun id h => by simp [h]) hT hf
   simp only [hf2,Option.bind_some] at h ⊢
   have hg3:=hL.on id hid
   rw [hg3]
   split at h
   ·rename_i sz rs hb2
    split at h
    ·rename_i r hr
     split at h
     ·rename_i h2
      cases h
      refine ⟨_,⟨_,by rw [if_pos h2],rfl⟩,?_,by simp⟩
      rw [hp]
      exact hL.trans (.set _ (fun j hj => hL.on j hj) hid (Heap.get_lt hb2))
     ·cases h
    ·cases h
   ·cases h
  ·cases h
 | stringish x =>
  refine reads hf (fun h => ?_) ?_
  ·simp only [opS] at h
   split at h
   ·split at h
    ·cases h; rfl
    ·cases h
   ·cases h
  ·have hT' : ∀ id ∈ shId (ev e x),H2.get id = H.get id:=by
    simp only [fpS,Option.some.injEq,Prod.mk.injEq] at hf
    exact hf.2 ▸ hT
   simp only [opS]
   split
   ·rename_i id off len hx
    rw [hx] at hT'
    rw [rowSz_congr (hT' id (by simp [shId]))]
    by_cases hq : rowSz H id = some 1 <;> simp [hq]
   ·rfl
 | tostr x =>
  have hT' : ∀ id ∈ shId (ev e x),H2.get id = H.get id:=by
   simp only [fpS,Option.some.injEq,Prod.mk.injEq] at hf
   exact hf.2 ▸ hT
  refine reads hf (fun h => ?_) ?_
  ·simp only [opS,Option.bind_eq_some_iff,Option.map_eq_some_iff] at h
   obtain ⟨_,_,_,_,h⟩:=h
   cases h; rfl
  ·simp only [opS,rowsOf_congr hT']
   cases rowsOf H (ev e x) <;> simp
   rename_i cs
   cases bytesOfRows cs <;> rfl
 | slice sz x lo hi mx =>
  have hT' : ∀ id ∈ shId (ev e x),H2.get id = H.get id:=by
   simp only [fpS,Option.some.injEq,Prod.mk.injEq] at hf
   exact hf.2 ▸ hT
  have hsl : ∀ a b c,sliceA H2 sz (ev e x) a b c = sliceA H sz (ev e x) a b c:=fun a b c => by
   unfold sliceA
   split
   ·rfl
   ·rename_i id off len hx
    rw [hx] at hT'
    simp only [hT' id (by simp [shId])]
   ·rfl
   ·rfl
  refine reads hf (fun h => ?_) ?_
  ·simp only [opS,Option.bind_eq_some_iff,Option.map_eq_some_iff] at h
   obtain ⟨_,_,_,_,_,_,_,_,h⟩:=h
   cases h; rfl
  ·simp only [opS,hsl]
   cases optI e lo <;> simp
   cases optI e hi <;> simp
   cases optI e mx <;> simp
   rename_i a b c
   cases sliceA H sz (ev e x) a b c <;> rfl
 | iaddr arr sz x ix =>
  have hT' : ∀ id ∈ shId (ev e x),H2.get id = H.get id:=by
   simp only [fpS,Option.some.injEq,Prod.mk.injEq] at hf
   exact hf.2 ▸ hT
  have hsl : ∀ i,iaddrA H2 arr sz (ev e x) i = iaddrA H arr sz (ev e x) i:=fun i => by
   unfold iaddrA
   split
   ·rfl
   ·rename_i id off len hx
    rw [hx] at hT'
    rw [rowSz_congr (hT' id (by simp [shId]))]
   ·rfl
   ·rfl
   ·rfl
  refine reads hf (fun h => ?_) ?_
  ·simp only [opS,Option.bind_eq_some_iff,Option.map_eq_some_iff] at h
   obtain ⟨_,_,_,_,h⟩:=h
   cases h; rfl
  ·simp only [opS,hsl]
   cases toI (ev e ix) <;> simp
   rename_i i
   cases iaddrA H arr sz (ev e x) i <;> rfl
 | len kd x =>
  have hT' : ∀ id ∈ shId (ev e x),H2.get id = H.get id:=by
   simp only [fpS,Option.some.injEq,Prod.mk.injEq] at hf
   exact hf.2 ▸ hT
  refine reads hf (fun h => ?_) ?_
  ·simp only [opS] at h
   split at h
   ·split at h
    ·split at h
     ·cases h; rfl
     ·cases h
    ·cases h
   ·simp only [Option.map_eq_some_iff] at h
    obtain ⟨_,_,h⟩:=h
    cases h; rfl
  ·simp only [opS]
   split
   ·rename_i id hx
    rw [hx] at hT'
    rw [hT' id (by simp [shId])]
    split
    ·split <;> rfl
    ·rfl
   ·cases lenOfA kd (ev e x) <;> rfl
 | look kd z mo k ok =>
  have hT' : ∀ id ∈ shId (ev e mo),H2.get id = H.get id:=by
   simp only [fpS,Option.some.injEq,Prod.mk.injEq] at hf
   exact hf.2 ▸ hT
  refine reads hf (fun h => ?_) ?_
  ·simp only [opS] at h
   split at h
   ·split at h
    ·split at h
     ·cases h; rfl
     ·cases h
    ·cases h
   ·cases h
  ·simp only [opS]
   split
   ·rename_i id hx
    rw [hx] at hT'
    rw [hT' id (by simp [shId])]
    split
    ·split <;> rfl
    ·rfl
   ·rfl
 | mput kd mo k x =>
  simp only [fpS,Option.some.injEq,Prod.mk.injEq] at hf
  obtain ⟨rfl,rfl⟩:=hf
  simp only [opS] at h ⊢
  split at h
  rotate_left
  ·cases h
  rename_i id hm
  rw [hm] at hT ⊢
  simp only [hT id (by simp [shId])]
  split at h
  ·rename_i kd' es hb
   split at h
   ·rename_i hh
    cases h
    exact ⟨_,by rw [if_pos hh],.set _ hT (by simp [shId]) (Heap.get_lt hb),by simp⟩
   ·cases h
  ·cases h
 | app sz b s x =>
  simp only [fpS,Option.some.injEq,Prod.mk.injEq] at hf
  obtain ⟨rfl,rfl⟩:=hf
  have hTx : ∀ id ∈ shId (ev e x),H2.get id = H.get id:=fun id hi => hT id (by simp [hi])
  have hn:=hnx rfl
  simp only [opS,rowsOf_congr hTx,Option.bind_eq_some_iff] at h ⊢
  obtain ⟨xs,hxs,h⟩:=h
  unfold appA at h ⊢
  split at h
  ·rename_i hs
   rw [hs] at hT ⊢
   split at h
   ·rename_i h0
    cases h
    exact ⟨_,⟨xs,hxs,by simp only [if_pos h0,hs]⟩,.still hT,by simp⟩
   ·rename_i h0
    split at h
    ·rename_i hh
     cases h
     exact ⟨_,⟨xs,hxs,by simp only [if_neg h0,if_pos hh]⟩,.put _ hT (by simp) hn,by simp⟩
    ·cases h
  ·rename_i id off len hs
   rw [hs] at hT ⊢
   have hg:=hT id (by simp [shId])
   split at h
   ·rename_i sz' rs hb
    split at h
    ·rename_i hh
     split at h
     ·rename_i hin
      cases h
      exact ⟨H2.set id (.row false sz (splice rs (off + len) xs)),⟨xs,hxs,by simp only [hg,hb,if_pos hh,if_pos hin]⟩,.set _ hT (by simp [shId]) (Heap.get_lt hb),by simp⟩
     rename_i hin
     cases h
     refine ⟨(H2.set id .dead).put nid (.row false sz ((rs.drop off).take len ++ xs)),⟨xs,hxs,by simp only [hg,hb,if_pos hh,if_neg hin]⟩,?_,by simp⟩
     have l1:=Loc.set .dead hT (id:=id) (by simp [shId]) (Heap.get_lt hb)
     exact l1.trans (.put _ l1.on (by simp) (by simpa using hn))
    ·cases h
   ·cases h
  ·rename_i hs
   rw [hs] at hT ⊢
   split at h
   ·rename_i h0
    cases h
    exact ⟨_,⟨xs,hxs,by simp only [if_pos h0,hs]⟩,.still hT,by simp⟩
   ·rename_i h0
    split at h
    ·rename_i hh
     cases h
     exact ⟨_,⟨xs,hxs,by simp only [if_neg h0,if_pos hh]⟩,.put _ hT (by simp) hn,by simp⟩
    ·cases h
  ·cases h
 | appz sz b z s x =>
  simp only [fpS,Option.some.injEq,Prod.mk.injEq] at hf
  obtain ⟨rfl,rfl⟩:=hf
  have hn:=hnx rfl
  simp only [opS] at h ⊢
  split at h
  rotate_left
  ·cases h
  split at h
  rotate_left
  ·cases h
  rename_i k hk hq
  simp only [hk,if_pos hq]
  generalize List.replicate k.toNat z = xs at h ⊢
  unfold appA at h ⊢
  split at h
  ·rename_i hs
   rw [hs] at hT ⊢
   split at h
   ·rename_i h0
    cases h
    exact ⟨_,by simp only [if_pos h0,hs],.still hT,by simp⟩
   ·rename_i h0
    split at h
    ·rename_i hh
     cases h
     exact ⟨_,by simp only [if_neg h0,if_pos hh],.put _ hT (by simp) hn,by simp⟩
    ·cases h
  ·rename_i id off len hs
   rw [hs] at hT ⊢
   have hg:=hT id (by simp [shId])
   split at h
   ·rename_i sz' rs hb
    split at h
    ·rename_i hh
     split at h
     ·rename_i hin
      cases h
      exact ⟨H2.set id (.row false sz (splice rs (off + len) xs)),by simp only [hg,hb,if_pos hh,if_pos hin],.set _ hT (by simp [shId]) (Heap.get_lt hb),by simp⟩
     rename_i hin
     cases h
     refine ⟨(H2.set id .dead).put nid (.row false sz ((rs.drop off).take len ++ xs)),by simp only [hg,hb,if_pos hh,if_neg hin],?_,by simp⟩
     have l1:=Loc.set .dead hT (id:=id) (by simp [shId]) (Heap.get_lt hb)
     exact l1.trans (.put _ l1.on (by simp) (by simpa using hn))
    ·cases h
   ·cases h
  ·rename_i hs
   rw [hs] at hT ⊢
   split at h
   ·rename_i h0
    cases h
    exact ⟨_,by simp only [if_pos h0,hs],.still hT,by simp⟩
   ·rename_i h0
    split at h
    ·rename_i hh
     cases h
     exact ⟨_,by simp only [if_neg h0,if_pos hh],.put _ hT (by simp) hn,by simp⟩
    ·cases h
  ·cases h
 | copy sz d s =>
  simp only [fpS,Option.some.injEq,Prod.mk.injEq] at hf
  obtain ⟨rfl,rfl⟩:=hf
  have hTx : ∀ id ∈ shId (ev e s),H2.get id = H.get id:=fun id hi => hT id (by simp [hi])
  simp only [opS,rowsOf_congr hTx,Option.bind_eq_some_iff] at h ⊢
  obtain ⟨xs,hxs,h⟩:=h
  simp only [Option.map_eq_some_iff] at h ⊢
  obtain ⟨⟨n,H1⟩,h,h'⟩:=h
  cases h'
  unfold copyA at h ⊢
  split at h
  ·rename_i id off len hd
   rw [hd] at hT ⊢
   have hg:=hT id (by simp [shId])
   split at h
   ·rename_i sz' rs hb
    split at h
    ·rename_i hh
     cases h
     exact ⟨H2.set id (.row false sz (splice rs off (xs.take (min xs.length len)))),⟨xs,hxs,(min xs.length len,H2.set id (.row false sz (splice rs off (xs.take (min xs.length len))))),by simp only [hg,hb,if_pos hh],rfl⟩,.set _ hT (by simp [shId]) (Heap.get_lt hb),by simp⟩
    ·cases h
   ·cases h
  ·rename_i hns
   split at h
   ·rename_i hl
    cases h
    refine ⟨H2,⟨xs,hxs,(0,H2),?_,rfl⟩,.still hT,by simp⟩
    first
     | rw [if_pos hl]
     | (split <;> first
       | rw [if_pos hl]
       | (rename_i hd; exact absurd hd (hns _ _ _)))
   ·cases h
 | clr sz z x =>
  simp only [fpS,Option.some.injEq,Prod.mk.injEq] at hf
  obtain ⟨rfl,rfl⟩:=hf
  simp only [opS,Option.map_eq_some_iff] at h ⊢
  obtain ⟨H1,h,h'⟩:=h
  cases h'
  unfold clrA at h ⊢
  split at h
  ·rename_i id off len hd
   rw [hd] at hT ⊢
   have hg:=hT id (by simp [shId])
   split at h
   ·rename_i sz' rs hb
    split at h
    ·rename_i hh
     cases h
     exact ⟨H2.set id (.row false sz (splice rs off (List.replicate len z))),⟨H2.set id (.row false sz (splice rs off (List.replicate len z))),by simp only [hg,hb,if_pos hh],rfl⟩,.set _ hT (by simp [shId]) (Heap.get_lt hb),by simp⟩
    ·cases h
   ·cases h
  ·rename_i hns
   split at h
   ·rename_i hl
    cases h
    refine ⟨H2,⟨H2,?_,rfl⟩,.still hT,by simp⟩
    first
     | rw [if_pos hl]
     | (split <;> first
       | rw [if_pos hl]
       | (rename_i hd; exact absurd hd (hns _ _ _)))
   ·cases h
 | call f args => exact absurd rfl (hnc f args)
 | stop => simp [opS] at h
 | mrng => simp [opS] at h
 | mnxt => simp [opS] at h
 | ment => simp [opS] at h
 | mdel => simp [opS] at h
 | _ =>
  refine plain_ rfl ?_
  simp only [fpS,Option.some.injEq,Prod.mk.injEq] at hf
  exact hf.2.symm
end Go.VI
namespace Go.VI
def Agree (ts : List Nat) (e e2 : Env) : Prop:=∀ t ∈ ts,e2.getD t .bad = e.getD t .bad
theorem ev_congr {e e2 : Env} {x : Operand} (h : Agree (slotsX x) e e2) : ev e2 x = ev e x:=by
 cases x with
 | tmp t => exact h t (by simp [slotsX])
 | _ => rfl
theorem optI_congr {e e2 : Env} {x : Option Operand} (h : Agree (slotsO x) e e2) : optI e2 x = optI e x:=by
 cases x with
 | none => rfl
 | some x => simp only [optI,ev_congr (x:=x) h]
theorem map_ev_congr {e e2 : Env} {xs : List Operand} (h : Agree (xs.flatMap slotsX) e e2) : xs.map (ev e2) = xs.map (ev e) :=
 List.map_congr_left fun x hx => ev_congr fun t ht => h t (List.mem_flatMap.2 ⟨x,hx,ht⟩)
theorem opS_congr {pv : AV → List AV → FP} {nid : Nat} {e e2 : Env} {H : Heap} {o : AOp} (h : Agree (slotsA o) e e2) : opS nid e2 H o = opS nid e H o ∧ fpS pv nid e2 o = fpS pv nid e o:=by
 have sub : ∀ {x : Operand},(∀ t ∈ slotsX x,t ∈ slotsA o) → ev e2 x = ev e x:=fun hx => ev_congr fun t ht => h t (hx t ht)
 have subO : ∀ {x : Option Operand},(∀ t ∈ slotsO x,t ∈ slotsA o) → optI e2 x = optI e x:=fun hx => optI_congr fun t ht => h t (hx t ht)
 cases o with
 | mov x => have h1:=sub (x:=x) (by simp [slotsA]); simp only [opS,fpS,h1,and_self]
 | box n x => have h1:=sub (x:=x) (by simp [slotsA]); simp only [opS,fpS,h1,and_self]
 | nilck x => have h1:=sub (x:=x) (by simp [slotsA]); simp only [opS,fpS,h1,and_self]
 | un n x => have h1:=sub (x:=x) (by simp [slotsA]); simp only [opS,fpS,h1,and_self]
 | conv n x => have h1:=sub (x:=x) (by simp [slotsA]); simp only [opS,fpS,h1,and_self]
 | stringish x => have h1:=sub (x:=x) (by simp [slotsA]); simp only [opS,fpS,h1,and_self]
 | tostr x => have h1:=sub (x:=x) (by simp [slotsA]); simp only [opS,fpS,h1,and_self]
 | faddr n x => have h1:=sub (x:=x) (by simp [slotsA]); simp only [opS,fpS,h1,and_self]
 | field a b c x => have h1:=sub (x:=x) (by simp [slotsA]); simp only [opS,fpS,h1,and_self]
 | ext x i => have h1:=sub (x:=x) (by simp [slotsA]); simp only [opS,fpS,h1,and_self]
 | len n x => have h1:=sub (x:=x) (by simp [slotsA]); simp only [opS,fpS,h1,and_self]
 | load a n x => have h1:=sub (x:=x) (by simp [slotsA]); simp only [opS,fpS,h1,and_self]
 | isnil a n x => have h1:=sub (x:=x) (by simp [slotsA]); simp only [opS,fpS,h1,and_self]
 | mrng x => simp only [opS,fpS,and_self]
 | mnxt x => simp only [opS,fpS,and_self]
 | ment x => simp only [opS,fpS,and_self]
 | mdel kd x y => simp only [opS,fpS,and_self]
 | pick c a b =>
  have h1:=sub (x:=c) (by simp +contextual [slotsA])
  have h2:=sub (x:=a) (by simp +contextual [slotsA])
  have h3:=sub (x:=b) (by simp +contextual [slotsA])
  simp only [opS,fpS,h1,h2,h3,and_self]
 | alloc z => exact ⟨rfl,rfl⟩
 | stop => exact ⟨rfl,rfl⟩
 | mkmap kd => exact ⟨rfl,rfl⟩
 | build z ps =>
  have h1 : ps.map (fun (o,n,x) => (o,n,ev e2 x)) = ps.map (fun (o,n,x) => (o,n,ev e x)):=List.map_congr_left fun p hp => by
   have:=sub (x:=p.2.2) fun t ht => List.mem_flatMap.2 ⟨p,hp,ht⟩
   simp only [this]
  simp only [opS,fpS,h1,and_self]
 | bslice sz z len ps =>
  have h0 : ∀ p ∈ ps,ev e2 p.2 = ev e p.2:=fun p hp => sub fun t ht => List.mem_flatMap.2 ⟨p,hp,ht⟩
  have h1 : ps.map (fun (i,x) => (i,ev e2 x)) = ps.map (fun (i,x) => (i,ev e x)):=List.map_congr_left fun p hp => by simp only [h0 p hp]
  simp only [opS,fpS,h1,and_self]
 | store n a b =>
  have h2:=sub (x:=a) (by simp +contextual [slotsA])
  have h3:=sub (x:=b) (by simp +contextual [slotsA])
  simp only [opS,fpS,h2,h3,and_self]
 | bin c d a b =>
  have h2:=sub (x:=a) (by simp +contextual [slotsA])
  have h3:=sub (x:=b) (by simp +contextual [slotsA])
  simp only [opS,fpS,h2,h3,and_self]
 | eqs c d a b =>
  have h2:=sub (x:=a) (by simp +contextual [slotsA])
  have h3:=sub (x:=b) (by simp +contextual [slotsA])
  simp only [opS,fpS,h2,h3,and_self]
 | eqb d a b =>
  have h2:=sub (x:=a) (by simp +contextual [slotsA])
  have h3:=sub (x:=b) (by simp +contextual [slotsA])
  simp only [opS,fpS,h2,h3,and_self]
 | mx2 a b =>
  have h2:=sub (x:=a) (by simp +contextual [slotsA])
  have h3:=sub (x:=b) (by simp +contextual [slotsA])
  simp only [opS,fpS,h2,h3,and_self]
 | mn2 a b =>
  have h2:=sub (x:=a) (by simp +contextual [slotsA])
  have h3:=sub (x:=b) (by simp +contextual [slotsA])
  simp only [opS,fpS,h2,h3,and_self]
 | mkfn f xs ys =>
  have h1:=map_ev_congr (xs:=xs) (e:=e) (e2:=e2) fun t ht => h t (by simp only [slotsA,List.mem_append]; exact .inl ht)
  have h2:=map_ev_congr (xs:=ys) (e:=e) (e2:=e2) fun t ht => h t (by simp only [slotsA,List.mem_append]; exact .inr ht)
  simp only [opS,fpS,h1,h2,and_self]
 | mkslice c d z a b =>
  have h2:=sub (x:=a) (by simp +contextual [slotsA])
  have h3:=sub (x:=b) (by simp +contextual [slotsA])
  simp only [opS,fpS,h2,h3,and_self]
 | slice sz x a b c =>
  have h0:=sub (x:=x) (by simp +contextual [slotsA])
  have h1:=subO (x:=a) (by simp +contextual [slotsA])
  have h2:=subO (x:=b) (by simp +contextual [slotsA])
  have h3:=subO (x:=c) (by simp +contextual [slotsA])
  simp only [opS,fpS,h0,h1,h2,h3,and_self]
 | slstr x a b =>
  have h0:=sub (x:=x) (by simp +contextual [slotsA])
  have h1:=subO (x:=a) (by simp +contextual [slotsA])
  have h2:=subO (x:=b) (by simp +contextual [slotsA])
  simp only [opS,fpS,h0,h1,h2,and_self]
 | iaddr c d a b =>
  have h2:=sub (x:=a) (by simp +contextual [slotsA])
  have h3:=sub (x:=b) (by simp +contextual [slotsA])
  simp only [opS,fpS,h2,h3,and_self]
 | index c d f a b =>
  have h2:=sub (x:=a) (by simp +contextual [slotsA])
  have h3:=sub (x:=b) (by simp +contextual [slotsA])
  simp only [opS,fpS,h2,h3,and_self]
 | app c d a b =>
  have h2:=sub (x:=a) (by simp +contextual [slotsA])
  have h3:=sub (x:=b) (by simp +contextual [slotsA])
  simp only [opS,fpS,h2,h3,and_self]
 | copy d a b =>
  have h2:=sub (x:=a) (by simp +contextual [slotsA])
  have h3:=sub (x:=b) (by simp +contextual [slotsA])
  simp only [opS,fpS,h2,h3,and_self]
 | appz c d f a b =>
  have h2:=sub (x:=a) (by simp +contextual [slotsA])
  have h3:=sub (x:=b) (by simp +contextual [slotsA])
  simp only [opS,fpS,h2,h3,and_self]
 | cap a =>
  have h2:=sub (x:=a) (by simp +contextual [slotsA])
  simp only [opS,fpS,h2,and_self]
 | clr c d a =>
  have h2:=sub (x:=a) (by simp +contextual [slotsA])
  simp only [opS,fpS,h2,and_self]
 | look c d a b f =>
  have h2:=sub (x:=a) (by simp +contextual [slotsA])
  have h3:=sub (x:=b) (by simp +contextual [slotsA])
  simp only [opS,fpS,h2,h3,and_self]
 | mput d a b c =>
  have h1:=sub (x:=c) (by simp +contextual [slotsA])
  have h2:=sub (x:=a) (by simp +contextual [slotsA])
  have h3:=sub (x:=b) (by simp +contextual [slotsA])
  simp only [opS,fpS,h1,h2,h3,and_self]
 | call f xs =>
  have h1:=sub (x:=f) (by simp +contextual [slotsA])
  have h2:=map_ev_congr (xs:=xs) (e:=e) (e2:=e2) fun t ht => h t (by simp only [slotsA,List.mem_append]; exact .inr ht)
  simp only [opS,fpS,h1,h2,and_self]
def opv (cf : CF) (nid : Nat) (o : AOper) (e : Env) (H : Heap) : Option (AV × Heap) :=
 if knownA e o.guard then if wantA e o.guard then opC cf nid e H o.op else some (.tup [],H) else none
theorem oper_eq (cf : CF) (nid : Nat) (o : AOper) (e : Env) (H : Heap) : oper cf nid o e H = (opv cf nid o e H).map fun (v,H) => (putA e o.dst v,H):=by
 unfold oper opv
 split
 ·split
  ·rfl
  ·rfl
 ·rfl
theorem opC_congr {cf : CF} {nid : Nat} {e e2 : Env} {H : Heap} {o : AOp} (h : Agree (slotsA o) e e2) : opC cf nid e2 H o = opC cf nid e H o:=by
 cases o with
 | call f xs =>
  have h1:=ev_congr (x:=f) (e:=e) (e2:=e2) fun t ht => h t (by simp only [slotsA,List.mem_append]; exact .inl ht)
  have h2:=map_ev_congr (xs:=xs) (e:=e) (e2:=e2) fun t ht => h t (by simp only [slotsA,List.mem_append]; exact .inr ht)
  simp only [opC,h1,h2]
 | stop => rfl
 | mrng x => rfl
 | mnxt x => rfl
 | ment x => rfl
 | mdel kd x y => rfl
 | _ => exact (opS_congr (pv:=fun _ _ => none) (nid:=nid) h).1
theorem opv_congr {cf : CF} {pv : AV → List AV → FP} {nid : Nat} {e e2 : Env} {H : Heap} {o : AOper} (h : Agree (slotsG o) e e2) : opv cf nid o e2 H = opv cf nid o e H ∧ fpO pv nid e2 o = fpO pv nid e o:=by
 have h1 : knownA e2 o.guard = knownA e o.guard ∧ wantA e2 o.guard = wantA e o.guard:=by
  cases hg : o.guard with
  | none => exact ⟨rfl,rfl⟩
  | some g =>
   obtain ⟨t,b⟩:=g
   cases t with
   | none => exact ⟨rfl,rfl⟩
   | some t =>
    have : e2.getD t .bad = e.getD t .bad:=h t (by simp [slotsG,hg])
    simp only [knownA,wantA,this,and_self]
 have h2 : Agree (slotsA o.op) e e2:=fun t ht => h t (by simp only [slotsG,List.mem_append]; exact .inl ht)
 simp only [opv,fpO,h1.1,h1.2,opC_congr h2,(opS_congr (pv:=pv) (nid:=nid) (H:=H) h2).2,and_self]
theorem extO_congr {pv : AV → List AV → FP} {e e2 : Env} {o : AOp} (h : Agree (slotsA o) e e2) : extO pv e2 o = extO pv e o:=by
 cases o with
 | call f xs =>
  have h1:=ev_congr (x:=f) (e:=e) (e2:=e2) fun t ht => h t (by simp only [slotsA,List.mem_append]; exact .inl ht)
  have h2:=map_ev_congr (xs:=xs) (e:=e) (e2:=e2) fun t ht => h t (by simp only [slotsA,List.mem_append]; exact .inr ht)
  simp only [extO,h1,h2]
 | _ => rfl
theorem fqO_congr {pv : AV → List AV → FP} {nid : Nat} {e e2 : Env} {H H' : Heap} {o : AOper} (h : Agree (slotsG o) e e2) : fqO pv nid e2 o H H' = fqO pv nid e o H H':=by
 unfold fqO
 rw [(opv_congr (cf:=fun _ _ _ => none) (pv:=pv) (H:=Heap.empty) h).2,extO_congr fun t ht => h t (by simp only [slotsG,List.mem_append]; exact .inl ht)]
structure CfPure (cf : CF) (pv : AV → List AV → FP) : Prop where
 pure : ∀ f args H v H' w T,pv f args = some (w,T) → cf f args H = some (v,H') → ∀ H2,(∀ id ∈ T,H2.get id = H.get id) → ∃ H2',cf f args H2 = some (v,H2') ∧ Loc T H H' H2 H2' ∧ (w = false → H' = H ∧ H2' = H2)
 next : ∀ f args H v H',cf f args H = some (v,H') → H.next ≤ H'.next
 ext : ∀ f args H v H',(pv (.tup [f]) args).isSome = true → cf f args H = some (v,H') → ∃ L,H' = ⟨H.bs ++ L⟩ ∧ ∀ H2 : Heap,H2.next = H.next → cf f args H2 = some (v,⟨H2.bs ++ L⟩)
theorem opv_local {cf : CF} {pv : AV → List AV → FP} (hcp : CfPure cf pv) {nid : Nat} {e : Env} {H H' H2 : Heap} {o : AOper} {v : AV} {wr : Bool} {T : List Nat}
  (hf : fpO pv nid e o = some (wr,T)) (h : opv cf nid o e H = some (v,H')) (hT : ∀ id ∈ T,H2.get id = H.get id) (hnx : allocA o.op = true → nid < H.next) :
  ∃ H2',opv cf nid o e H2 = some (v,H2') ∧ Loc T H H' H2 H2' ∧ (wr = false → H' = H ∧ H2' = H2):=by
 unfold opv at h ⊢
 unfold fpO at hf
 split at h
 rotate_left
 ·cases h
 rename_i hk
 rw [if_pos hk]
 split at h
 ·rename_i hw
  rw [if_pos hw] at hf ⊢
  by_cases hc : ∃ f args,o.op = .call f args
  ·obtain ⟨f,args,hc⟩:=hc
   simp only [hc,opC,fpS] at h hf ⊢
   exact hcp.pure _ _ _ _ _ _ _ hf h H2 hT
  ·have hnc : ∀ f args,o.op ≠ .call f args:=fun f args e => hc ⟨f,args,e⟩
   have hop : ∀ H0,opC cf nid e H0 o.op = opS nid e H0 o.op:=fun H0 => by
    unfold opC
    split
    ·exact absurd ‹_› (hnc _ _)
    ·rfl
   rw [hop] at h
   rw [hop]
   exact opS_local hnc hf h hT hnx
 ·rename_i hw
  rw [if_neg hw] at hf ⊢
  cases h
  cases hf
  exact ⟨H2,rfl,.still hT,fun _ => ⟨rfl,rfl⟩⟩
theorem opv_next {cf : CF} {pv : AV → List AV → FP} (hcp : CfPure cf pv) {nid : Nat} {e : Env} {H H' : Heap} {o : AOper} {v : AV} (h : opv cf nid o e H = some (v,H')) : H.next ≤ H'.next:=by
 unfold opv at h
 split at h
 ·split at h
  ·unfold opC at h
   split at h
   ·exact hcp.next _ _ _ _ _ h
   ·exact opS_next h
  ·cases h; exact Nat.le_refl _
 ·cases h
theorem apartA_spec {x y : AOper} (h : apartA x y = true) : (∀ d,x.dst = some d → d ∉ slotsG y ∧ y.dst ≠ some d) ∧ (∀ d,y.dst = some d → d ∉ slotsG x):=by
 refine ⟨fun d hd => ?_,fun d hd => ?_⟩ <;> simp [apartA,hd] at h
 ·exact ⟨h.1.1,h.1.2⟩
 ·exact h.2
theorem agree_put {ts : List Nat} {e : Env} {d : Option Nat} {v : AV} (h : ∀ t,d = some t → t ∉ ts) : Agree ts e (putA e d v):=by
 intro t ht
 cases d with
 | none => rfl
 | some s =>
  have : s ≠ t:=fun e => h s rfl (e ▸ ht)
  simp only [putA]
  rw [List.getD_eq_getElem?_getD,List.getD_eq_getElem?_getD,List.getElem?_set_ne this]
theorem Agree.symm {ts : List Nat} {e e2 : Env} (h : Agree ts e e2) : Agree ts e2 e:=fun t ht => (h t ht).symm
theorem putA_comm (e : Env) {x y : Option Nat} (u v : AV) (h : ∀ d,x = some d → y ≠ some d) : putA (putA e x u) y v = putA (putA e y v) x u:=by
 cases x with
 | none => rfl
 | some a =>
  cases y with
  | none => rfl
  | some b => exact List.set_comm _ _ (fun e => h a rfl (by rw [e]))
theorem mkFQ_loc {f : FP} {H H' : Heap} {w : Bool} {t : List Nat} (h : mkFQ f H H' = .loc w t) : f = some (w,t):=by
 unfold mkFQ at h
 split at h
 ·cases h; rfl
 ·cases h
theorem mkFQ_any {f : FP} {H H' K K' : Heap} (h : mkFQ f H H' = .any K K') : f = none ∧ K = H ∧ K' = H':=by
 unfold mkFQ at h
 split at h
 ·cases h
 ·cases h; exact ⟨rfl,rfl,rfl⟩
theorem sameAt_spec {H H' : Heap} {t : List Nat} (h : sameAt H H' t = true) : ∀ i ∈ t,H'.get i = H.get i:=by
 unfold sameAt at h
 exact @of_decide_eq_true _ (Classical.propDecidable _) h
theorem exFQ_cases (b : Bool) (q : FQ) : exFQ b q = q ∨ (b = true ∧ ∃ H H',q = .any H H' ∧ exFQ b q = .ext H.next H'.next):=by
 unfold exFQ
 split
 ·split
  ·exact .inr ⟨‹_›,_,_,rfl,rfl⟩
  ·exact .inl rfl
 ·exact .inl rfl
theorem fqO_loc {pv : AV → List AV → FP} {n : Nat} {e : Env} {o : AOper} {H H' : Heap} {w : Bool} {t : List Nat} (h : fqO pv n e o H H' = .loc w t) : fpO pv n e o = some (w,t):=by
 unfold fqO at h
 rcases exFQ_cases (extO pv e o.op) (mkFQ (fpO pv n e o) H H') with h1 | ⟨_,_,_,_,h1⟩
 ·rw [h1] at h; exact mkFQ_loc h
 ·rw [h1] at h; cases h
theorem exFQ_loc (b w : Bool) (t : List Nat) : exFQ b (.loc w t) = .loc w t:=by
 unfold exFQ
 split <;> rfl
theorem fqO_some {pv : AV → List AV → FP} {n : Nat} {e : Env} {o : AOper} {w : Bool} {t : List Nat} (h : fpO pv n e o = some (w,t)) (H H' : Heap) : fqO pv n e o H H' = .loc w t:=by
 unfold fqO
 rw [h]
 exact exFQ_loc _ _ _
theorem fqO_any {pv : AV → List AV → FP} {n : Nat} {e : Env} {o : AOper} {H H' K K' : Heap} (h : fqO pv n e o H H' = .any K K') : K = H ∧ K' = H':=by
 unfold fqO at h
 rcases exFQ_cases (extO pv e o.op) (mkFQ (fpO pv n e o) H H') with h1 | ⟨_,_,_,_,h1⟩
 ·rw [h1] at h
  obtain ⟨_,h1,h2⟩:=mkFQ_any h
  exact ⟨h1,h2⟩
 ·rw [h1] at h; cases h
theorem fqO_ext {pv : AV → List AV → FP} {n : Nat} {e : Env} {o : AOper} {H H' : Heap} {i j : Nat} (h : fqO pv n e o H H' = .ext i j) : extO pv e o.op = true ∧ fpO pv n e o = none ∧ i = H.next ∧ j = H'.next:=by
 unfold fqO at h
 rcases exFQ_cases (extO pv e o.op) (mkFQ (fpO pv n e o) H H') with h1 | ⟨h0,K,K',h2,h1⟩
 ·rw [h1] at h
  unfold mkFQ at h
  split at h <;> cases h
 ·rw [h1] at h
  cases h
  obtain ⟨h3,rfl,rfl⟩:=mkFQ_any h2
  exact ⟨h0,h3,rfl,rfl⟩
theorem fqO_exts {pv : AV → List AV → FP} {n : Nat} {e : Env} {o : AOper} (h1 : extO pv e o.op = true) (h2 : fpO pv n e o = none) (H H' : Heap) : fqO pv n e o H H' = .ext H.next H'.next:=by
 unfold fqO
 rw [h1,h2]
 rfl
theorem opv_ext {cf : CF} {pv : AV → List AV → FP} (hcp : CfPure cf pv) {n : Nat} {e : Env} {H H' : Heap} {o : AOper} {v : AV} (he : extO pv e o.op = true) (hn : fpO pv n e o = none) (h : opv cf n o e H = some (v,H')) :
  ∃ L,H' = ⟨H.bs ++ L⟩ ∧ ∀ H2 : Heap,H2.next = H.next → opv cf n o e H2 = some (v,⟨H2.bs ++ L⟩):=by
 have hw : wantA e o.guard = true:=by
  unfold fpO at hn
  split at hn
  ·assumption
  ·cases hn
 unfold opv at h ⊢
 split at h
 rotate_left
 ·cases h
 rename_i hk
 first | rw [if_pos hw] at h | skip
 obtain ⟨d,op,g⟩:=o
 cases op with
 | call f args =>
  obtain ⟨L,h1,h2⟩:=hcp.ext _ _ _ _ _ he h
  refine ⟨L,h1,fun H2 h3 => ?_⟩
  rw [if_pos hk,if_pos hw]
  exact h2 H2 h3
 | _ => cases he
theorem ext_get {H : Heap} {L : List Blk} {i : Nat} (h : i < H.next) : (⟨H.bs ++ L⟩ : Heap).get i = H.get i:=by
 simp only [Heap.get,Heap.next] at *
 rw [List.getElem?_append_left h]
theorem ext_get2 {H H2 : Heap} {L : List Blk} {i : Nat} (h : H.next ≤ i) (hn : H2.next = H.next) : (⟨H.bs ++ L⟩ : Heap).get i = (⟨H2.bs ++ L⟩ : Heap).get i:=by
 simp only [Heap.get,Heap.next] at *
 rw [List.getElem?_append_right h,List.getElem?_append_right (by omega),hn]
theorem ext_next (H : Heap) (L : List Blk) : (⟨H.bs ++ L⟩ : Heap).next = H.next + L.length:=by simp [Heap.next]
theorem opv_swap {cf : CF} {pv : AV → List AV → FP} (hcp : CfPure cf pv) {nx ny : Nat} {x y : AOper} {e : Env} {H H1 H2 : Heap} {u v : AV} (hfc : compat (fqO pv nx e x H H1) (fqO pv ny e y H1 H2) = true)
  (hx : opv cf nx x e H = some (u,H1)) (hy : opv cf ny y e H1 = some (v,H2)) (hnx : allocA x.op = true → nx < H.next) (hny : allocA y.op = true → ny < H1.next) :
  ∃ H1',opv cf ny y e H = some (v,H1') ∧ opv cf nx x e H1' = some (u,H2) ∧ fqO pv ny e y H H1' = fqO pv ny e y H1 H2 ∧ fqO pv nx e x H1' H2 = fqO pv nx e x H H1:=by
 have empty : ∀ {n : Nat} {o : AOper} {w : Bool} {K K' : Heap} {z : AV},fpO pv n e o = some (w,[]) → opv cf n o e K = some (z,K') → (allocA o.op = true → n < K.next) → K' = K ∧ ∀ K2,opv cf n o e K2 = some (z,K2):=fun hf h hn => by
  refine ⟨?_,fun K2 => ?_⟩
  ·obtain ⟨_,_,l,_⟩:=opv_local hcp hf h (H2:=Heap.empty) (fun _ h => by cases h) hn
   exact Heap.ext fun id => l.off id (by simp)
  ·obtain ⟨K3,h3,l,_⟩:=opv_local hcp hf h (H2:=K2) (fun _ h => by cases h) hn
   have : K3 = K2:=Heap.ext fun id => l.off2 id (by simp)
   rw [← this]
   rw [this] at h3 ⊢
   exact h3
 generalize hfx : fqO pv nx e x H H1 = fx at hfc
 generalize hfy : fqO pv ny e y H1 H2 = fy at hfc
 unfold compat at hfc
 split at hfc
 ·have hfx':=fqO_loc hfx
  obtain ⟨rfl,k⟩:=empty hfx' hx hnx
  exact ⟨H2,hy,k H2,hfy,by rw [fqO_some hfx',← hfx,fqO_some hfx']⟩
 ·have hfy':=fqO_loc hfy
  obtain ⟨rfl,k⟩:=empty hfy' hy hny
  exact ⟨H,k H,hx,by rw [fqO_some hfy',← hfy,fqO_some hfy'],hfx⟩
 ·rename_i w1 t1 w2 t2 _ _
  have hfx':=fqO_loc hfx
  have hfy':=fqO_loc hfy
  have gx : ∀ K K',fqO pv nx e x K K' = .loc w1 t1:=fun K K' => fqO_some hfx' _ _
  have gy : ∀ K K',fqO pv ny e y K K' = .loc w2 t2:=fun K K' => fqO_some hfy' _ _
  simp only [Bool.or_eq_true,Bool.and_eq_true,Bool.not_eq_true',List.all_eq_true] at hfc
  by_cases hw : w1 = false ∧ w2 = false
  ·obtain ⟨rfl,rfl⟩:=hw
   obtain ⟨_,_,_,k1⟩:=opv_local hcp hfx' hx (H2:=H) (fun _ _ => rfl) hnx
   obtain ⟨rfl,_⟩:=k1 rfl
   obtain ⟨_,_,_,k2⟩:=opv_local hcp hfy' hy (H2:=H1) (fun _ _ => rfl) hny
   obtain ⟨rfl,_⟩:=k2 rfl
   exact ⟨_,hy,hx,gy _ _,gx _ _⟩
  ·have hd : ∀ i ∈ t1,i ∉ t2:=fun i hi => by
    rcases hfc with h | h
    ·exact absurd h hw
    ·have:=h i hi
     simpa using this
   have hd2 : ∀ i ∈ t2,i ∉ t1:=fun i hi h => hd i h hi
   obtain ⟨_,_,lx,_⟩:=opv_local hcp hfx' hx (H2:=H) (fun _ _ => rfl) hnx
   obtain ⟨H1',y1,ly,_⟩:=opv_local hcp hfy' hy (H2:=H) (fun i hi => (lx.off i (hd2 i hi)).symm) hny
   obtain ⟨H2',x1,lx2,_⟩:=opv_local hcp hfx' hx (H2:=H1') (fun i hi => ly.off2 i (hd i hi)) hnx
   refine ⟨H1',y1,?_,gy _ _,gx _ _⟩
   have : H2' = H2:=Heap.ext fun i => by
    by_cases h1 : i ∈ t1
    ·rw [lx2.on i h1,ly.off i (hd i h1)]
    ·rw [lx2.off2 i h1]
     by_cases h2 : i ∈ t2
     ·rw [ly.on i h2]
     ·rw [ly.off2 i h2,ly.off i h2,lx.off i h1]
   rw [← this]
   exact x1
 ·rename_i K K' t _ 
  obtain ⟨rfl,rfl⟩:=fqO_any hfx
  have hfy':=fqO_loc hfy
  obtain ⟨K1,k1,_,k2⟩:=opv_local hcp hfy' hy (H2:=K) (fun i hi => (sameAt_spec hfc i hi).symm) hny
  obtain ⟨rfl,rfl⟩:=k2 rfl
  exact ⟨_,k1,hx,by rw [fqO_some hfy',← hfy,fqO_some hfy'],hfx⟩
 ·rename_i t K K' _
  obtain ⟨rfl,rfl⟩:=fqO_any hfy
  have hfx':=fqO_loc hfx
  obtain ⟨_,_,_,k0⟩:=opv_local hcp hfx' hx (H2:=H) (fun _ _ => rfl) hnx
  obtain ⟨rfl,_⟩:=k0 rfl
  obtain ⟨K1,k1,_,k2⟩:=opv_local hcp hfx' hx (H2:=K') (fun i hi => sameAt_spec hfc i hi) hnx
  obtain ⟨_,rfl⟩:=k2 rfl
  exact ⟨_,hy,k1,hfy,by rw [fqO_some hfx',← hfx,fqO_some hfx']⟩
 ·rename_i n0 m0 w t _
  obtain ⟨ex,fx0,rfl,rfl⟩:=fqO_ext hfx
  have hfy':=fqO_loc hfy
  rw [List.all_eq_true] at hfc
  have hlt : ∀ i ∈ t,i < H.next:=fun i hi => of_decide_eq_true (hfc i hi)
  obtain ⟨L,rfl,k⟩:=opv_ext hcp ex fx0 hx
  obtain ⟨K1,k1,l,_⟩:=opv_local hcp hfy' hy (H2:=H) (fun i hi => (ext_get (hlt i hi)).symm) hny
  have hn : K1.next = H.next:=l.nx2
  have e2 : (⟨K1.bs ++ L⟩ : Heap) = H2:=Heap.ext fun i => by
   rcases Nat.lt_or_ge i H.next with h1 | h1
   ·rw [ext_get (by omega)]
    by_cases h2 : i ∈ t
    ·exact l.on i h2
    ·rw [l.off2 i h2,l.off i h2,ext_get h1]
   ·have h2 : i ∉ t:=fun h => by have:=hlt i h; omega
    rw [l.off i h2,ext_get2 (H:=K1) (H2:=H) (by omega) hn.symm]
  refine ⟨K1,k1,by rw [← e2]; exact k K1 hn,by rw [fqO_some hfy',← hfy,fqO_some hfy'],?_⟩
  rw [fqO_exts ex fx0,← e2,ext_next,ext_next,hn]
 ·rename_i w t n0 m0 _
  obtain ⟨ey,fy0,rfl,rfl⟩:=fqO_ext hfy
  have hfx':=fqO_loc hfx
  rw [List.all_eq_true] at hfc
  have hlt : ∀ i ∈ t,i < H1.next:=fun i hi => of_decide_eq_true (hfc i hi)
  obtain ⟨L,rfl,k⟩:=opv_ext hcp ey fy0 hy
  obtain ⟨_,_,l0,_⟩:=opv_local hcp hfx' hx (H2:=H) (fun _ _ => rfl) hnx
  have hn : H1.next = H.next:=l0.nx
  have hext : ∀ i ∈ t,(⟨H.bs ++ L⟩ : Heap).get i = H.get i:=fun i hi => ext_get (by rw [← hn]; exact hlt i hi)
  obtain ⟨K2,k2,l,_⟩:=opv_local hcp hfx' hx (H2:=⟨H.bs ++ L⟩) hext hnx
  have e2 : K2 = ⟨H1.bs ++ L⟩:=Heap.ext fun i => by
   by_cases h2 : i ∈ t
   ·rw [l.on i h2,ext_get (hlt i h2)]
   ·rw [l.off2 i h2]
    rcases Nat.lt_or_ge i H.next with h1 | h1
    ·rw [ext_get h1,ext_get (by omega),l.off i h2]
    ·exact ext_get2 h1 hn
  refine ⟨⟨H.bs ++ L⟩,k H hn.symm,by rw [← e2]; exact k2,?_,by rw [fqO_some hfx',← hfx,fqO_some hfx']⟩
  rw [fqO_exts ey fy0,ext_next,ext_next,hn]
 ·cases hfc
theorem oper_swap {cf : CF} {pv : AV → List AV → FP} (hcp : CfPure cf pv) {nx ny : Nat} {x y : AOper} {e e1 e2 : Env} {H H1 H2 : Heap} (hap : apartA x y = true) (hfc : compat (fqO pv nx e x H H1) (fqO pv ny e1 y H1 H2) = true)
  (hx : oper cf nx x e H = some (e1,H1)) (hy : oper cf ny y e1 H1 = some (e2,H2)) (hnx : allocA x.op = true → nx < H.next) (hny : allocA y.op = true → ny < H1.next) :
  ∃ e1' H1',oper cf ny y e H = some (e1',H1') ∧ oper cf nx x e1' H1' = some (e2,H2) ∧ fqO pv ny e y H H1' = fqO pv ny e1 y H1 H2 ∧ fqO pv nx e1' x H1' H2 = fqO pv nx e x H H1:=by
 obtain ⟨a1,a2⟩:=apartA_spec hap
 rw [oper_eq,Option.map_eq_some_iff] at hx hy
 obtain ⟨⟨u,K1⟩,hx,h'⟩:=hx
 simp only [Prod.mk.injEq] at h'
 obtain ⟨rfl,rfl⟩:=h'
 obtain ⟨⟨v,K2⟩,hy,h'⟩:=hy
 simp only [Prod.mk.injEq] at h'
 obtain ⟨rfl,rfl⟩:=h'
 have g1 : Agree (slotsG y) e (putA e x.dst u):=agree_put fun t ht => (a1 t ht).1
 have g2 : Agree (slotsG x) e (putA e y.dst v):=agree_put fun t ht => a2 t ht
 rw [(opv_congr (cf:=cf) (pv:=pv) g1).1] at hy
 rw [fqO_congr g1] at hfc
 obtain ⟨H1',y1,x1,f1,f2⟩:=opv_swap hcp hfc hx hy hnx hny
 refine ⟨putA e y.dst v,H1',by rw [oper_eq,y1]; rfl,?_,by rw [fqO_congr g1]; exact f1,by rw [fqO_congr g2]; exact f2⟩
 rw [oper_eq,(opv_congr (cf:=cf) (pv:=pv) g2).1,x1]
 simp only [Option.map_some,Option.some.injEq,Prod.mk.injEq,and_true]
 exact (putA_comm e u v fun d hd => (a1 d hd).2).symm
end Go.VI
namespace Go.VI
structure It where
 i : Nat
 o : AOper
 nid : Nat
 fp : FQ
def St (cf : CF) (pv : AV → List AV → FP) (x : It) (s s' : Env × Heap) : Prop:=oper cf x.nid x.o s.1 s.2 = some s' ∧ fqO pv x.nid s.1 x.o s.2 s'.2 = x.fp
def RunL (cf : CF) (pv : AV → List AV → FP) : List It → Env × Heap → Env × Heap → Prop
 | [],s,s' => s = s'
 | x :: r,s,s' => ∃ s1,St cf pv x s s1 ∧ RunL cf pv r s1 s'
def NidsLt (L : List It) (n : Nat) : Prop:=∀ x ∈ L,allocA x.o.op = true → x.nid < n
theorem St.next {cf : CF} {pv : AV → List AV → FP} (hcp : CfPure cf pv) {x : It} {s s' : Env × Heap} (h : St cf pv x s s') : s.2.next ≤ s'.2.next:=by
 obtain ⟨h,_⟩:=h
 rw [oper_eq,Option.map_eq_some_iff] at h
 obtain ⟨⟨v,K⟩,h,rfl⟩:=h
 exact opv_next hcp h
theorem front {cf : CF} {pv : AV → List AV → FP} (hcp : CfPure cf pv) {y : It} {B : List It} {s' : Env × Heap} : ∀ (A : List It) (s : Env × Heap),NidsLt (A ++ y :: B) s.2.next →
  (∀ x ∈ A,apartA x.o y.o = true ∧ compat x.fp y.fp = true) → RunL cf pv (A ++ y :: B) s s' → ∃ s1,St cf pv y s s1 ∧ RunL cf pv (A ++ B) s1 s'
 | [],s,_,_,h => h
 | x :: A,s,hn,hc,h => by
  obtain ⟨s1,hx,h⟩:=h
  have hle:=hx.next hcp
  obtain ⟨s2,hy,hr⟩:=front hcp A s1 (fun z hz ha => Nat.lt_of_lt_of_le (hn z (List.mem_cons_of_mem _ hz) ha) hle) (fun z hz => hc z (List.mem_cons_of_mem _ hz)) h
  obtain ⟨c1,c2⟩:=hc x List.mem_cons_self
  obtain ⟨x1,x2⟩:=hx
  obtain ⟨y1,y2⟩:=hy
  have:=oper_swap hcp (pv:=pv) (nx:=x.nid) (ny:=y.nid) (x:=x.o) (y:=y.o) (e:=s.1) (H:=s.2) (e1:=s1.1) (H1:=s1.2) (e2:=s2.1) (H2:=s2.2) c1 (by rw [x2,y2]; exact c2) x1 y1 (hn x List.mem_cons_self)
   (fun ha => Nat.lt_of_lt_of_le (hn y (by simp) ha) hle)
  obtain ⟨e1',H1',b1,b2,b3,b4⟩:=this
  exact ⟨(e1',H1'),⟨b1,by rw [b3]; exact y2⟩,s2,⟨b2,by rw [b4]; exact x2⟩,hr⟩
def itemsOf : Nat → Nat → List AOper → List FQ → List It
 | _,_,[],_ => []
 | i,nid,o :: os,fs => ⟨i,o,nid,fs.headD .no⟩ :: itemsOf (i + 1) (nid + nAl o) os fs.tail
theorem runs_RunL {cf : CF} {pv : AV → List AV → FP} : ∀ (os : List AOper) (i nid : Nat) (e e' : Env) (H H' : Heap) (fs : List FQ),runs cf pv nid os e H = some (fs,e',H') → RunL cf pv (itemsOf i nid os fs) (e,H) (e',H') ∧ fs.length = os.length
 | [],i,nid,e,e',H,H',fs,h => by
  simp only [runs,Option.some.injEq,Prod.mk.injEq] at h
  obtain ⟨rfl,rfl,rfl⟩:=h
  exact ⟨rfl,rfl⟩
 | o :: os,i,nid,e,e',H,H',fs,h => by
  simp only [runs,Option.bind_eq_some_iff,Option.map_eq_some_iff,Prod.mk.injEq] at h
  obtain ⟨⟨e1,H1⟩,h1,⟨gs,e2,H2⟩,h2,rfl,rfl,rfl⟩:=h
  obtain ⟨a,b⟩:=runs_RunL os (i + 1) (nid + nAl o) e1 e2 H1 H2 gs h2
  exact ⟨⟨(e1,H1),⟨h1,rfl⟩,a⟩,by simp [b]⟩
theorem items_spec : ∀ (os : List AOper) (i nid : Nat) (fs : List FQ) (x : It),x ∈ itemsOf i nid os fs → i ≤ x.i ∧ os[x.i - i]? = some x.o ∧ x.fp = fs.getD (x.i - i) .no ∧ nid ≤ x.nid ∧ (allocA x.o.op = true → x.nid < nid + nAls os)
 | [],i,nid,fs,x,h => by cases h
 | o :: os,i,nid,fs,x,h => by
  simp only [itemsOf,List.mem_cons] at h
  rcases h with rfl | h
  ·refine ⟨Nat.le_refl _,by simp,?_,Nat.le_refl _,fun ha => ?_⟩
   ·cases fs <;> simp
   ·simp only [nAls,List.map_cons,List.sum_cons,nAl]
    rw [if_pos ha]
    omega
  ·obtain ⟨a,b,c,d,e⟩:=items_spec os (i + 1) (nid + nAl o) fs.tail x h
   refine ⟨by omega,?_,?_,by omega,fun ha => ?_⟩
   ·rw [show x.i - i = (x.i - (i + 1)) + 1 by omega]
    simpa using b
   ·rw [c,show x.i - i = (x.i - (i + 1)) + 1 by omega]
    cases fs <;> simp
   ·have:=e ha
    simp only [nAls,List.map_cons,List.sum_cons] at this ⊢
    omega
theorem items_idx : ∀ (os : List AOper) (i nid : Nat) (fs : List FQ),(itemsOf i nid os fs).map (·.i) = List.range' i os.length
 | [],i,nid,fs => rfl
 | o :: os,i,nid,fs => by
  simp only [itemsOf,List.map_cons,List.length_cons,List.range'_succ]
  rw [items_idx os (i + 1) (nid + nAl o) fs.tail]
theorem items_nid : ∀ (os : List AOper) (i nid : Nat) (fs : List FQ) (x y : It),x ∈ itemsOf i nid os fs → y ∈ itemsOf i nid os fs → x.i < y.i → allocA x.o.op = true → x.nid < y.nid
 | [],i,nid,fs,x,y,h,_,_,_ => by cases h
 | o :: os,i,nid,fs,x,y,hx,hy,hlt,ha => by
  simp only [itemsOf,List.mem_cons] at hx hy
  rcases hx with rfl | hx
  ·rcases hy with rfl | hy
   ·omega
   ·have:=(items_spec os (i + 1) (nid + nAl o) fs.tail y hy).2.2.2.1
    have h1 : nAl o = 1:=by simp only [nAl]; rw [if_pos ha]
    show nid < y.nid
    omega
  ·rcases hy with rfl | hy
   ·have:=(items_spec os (i + 1) (nid + nAl o) fs.tail x hx).1
    simp at hlt
    omega
   ·exact items_nid os (i + 1) (nid + nAl o) fs.tail x y hx hy hlt ha
theorem fp_cls {pv : AV → List AV → FP} {nid : Nat} {e : Env} {o : AOper} : (clsA o.op = 0 → fpO pv nid e o = some (false,[])) ∧ (clsA o.op = 1 → ∃ T,fpO pv nid e o = some (false,T)) ∧
  (clsA o.op = 2 → allocA o.op = true ∧ (fpO pv nid e o = some (true,[nid]) ∨ fpO pv nid e o = some (false,[]))):=by
 unfold fpO
 by_cases hw : wantA e o.guard = true
 ·rw [if_pos hw]
  cases o.op <;> simp [clsA,fpS,allocA]
 ·rw [if_neg hw]
  refine ⟨fun _ => rfl,fun _ => ⟨_,rfl⟩,fun h => ⟨?_,.inr rfl⟩⟩
  revert h
  cases o.op <;> simp [clsA,allocA]
theorem compat_nil_l (w : Bool) (f : FQ) : compat (.loc w []) f = true:=by simp [compat]
theorem compat_nil_r (w : Bool) (f : FQ) : compat f (.loc w []) = true:=by
 unfold compat
 split <;> simp_all
theorem clash_compat {pv : AV → List AV → FP} {nx ny : Nat} {e e2 : Env} {x y : AOper} {K1 K2 K3 K4 : Heap} (hn : allocA x.op = true → allocA y.op = true → nx ≠ ny) (h : clash (clsA x.op) (clsA y.op) = false) : compat (fqO pv nx e x K1 K2) (fqO pv ny e2 y K3 K4) = true:=by
 obtain ⟨a0,a1,a2⟩:=fp_cls (pv:=pv) (nid:=nx) (e:=e) (o:=x)
 obtain ⟨b0,b1,b2⟩:=fp_cls (pv:=pv) (nid:=ny) (e:=e2) (o:=y)
 unfold clash at h
 split at h
 ·rw [fqO_some (a0 ‹_›)]; exact compat_nil_l _ _
 ·rw [fqO_some (b0 ‹_›)]; exact compat_nil_r _ _
 ·obtain ⟨T,hT⟩:=a1 ‹_›
  obtain ⟨U,hU⟩:=b1 ‹_›
  rw [fqO_some hT,fqO_some hU]
  unfold compat
  split <;> simp_all
 ·obtain ⟨p1,p2⟩:=a2 ‹_›
  obtain ⟨q1,q2⟩:=b2 ‹_›
  rcases p2 with p2 | p2
  ·rcases q2 with q2 | q2
   ·rw [fqO_some p2,fqO_some q2]
    have:=hn p1 q1
    simp [compat,this]
   ·rw [fqO_some q2]; exact compat_nil_r _ _
  ·rw [fqO_some p2]; exact compat_nil_l _ _
 ·cases h
theorem pairsAt_spec {os : List AOper} {bf : List Nat} {j : Nat} {y : AOper} : ∀ (r : List AOper) (i : Nat) (ps : List (Nat × Nat)),pairsAt os bf j y i r = some ps → ∀ (k : Nat) (x : AOper),r[k]? = some x → i + k < j →
  (bf.getD j 0).testBit (i + k) = true ∨ (apartA x y = true ∧ (clash (clsA x.op) (clsA y.op) = true → (i + k,j) ∈ ps))
 | [],i,ps,h,k,x,hx,hk => by simp at hx
 | z :: r,i,ps,h,k,x,hx,hk => by
  simp only [pairsAt,Option.bind_eq_some_iff] at h
  obtain ⟨qs,hq,h⟩:=h
  have ih:=pairsAt_spec r (i + 1) qs hq
  have sub : ∀ q ∈ qs,q ∈ ps:=fun q hq => by
   split at h
   ·cases h; exact hq
   ·split at h
    ·cases h; exact hq
    ·split at h
     ·split at h
      ·cases h; exact List.mem_cons_of_mem _ hq
      ·cases h; exact hq
     ·cases h
  cases k with
  | zero =>
   simp only [List.getElem?_cons_zero,Option.some.injEq] at hx
   subst hx
   rw [Nat.add_zero] at hk ⊢
   rw [if_neg (by omega)] at h
   split at h
   ·exact .inl ‹_›
   ·split at h
    ·rename_i hap
     refine .inr ⟨hap,fun hc => ?_⟩
     rw [if_pos hc] at h
     cases h
     exact List.mem_cons_self
    ·cases h
  | succ k =>
   rw [show i + (k + 1) = i + 1 + k by omega] at hk ⊢
   exact (ih k x (by simpa using hx) hk).imp_right fun ⟨a,b⟩ => ⟨a,fun c => sub _ (b c)⟩
theorem pairsOf_spec {os : List AOper} {bf : List Nat} : ∀ (r : List AOper) (j : Nat) (ps : List (Nat × Nat)),pairsOf os bf j r = some ps → ∀ (k i : Nat) (x y : AOper),r[k]? = some y → os[i]? = some x → i < j + k →
  (bf.getD (j + k) 0).testBit i = true ∨ (apartA x y = true ∧ (clash (clsA x.op) (clsA y.op) = true → (i,j + k) ∈ ps))
 | [],j,ps,h,k,i,x,y,hy,hx,hk => by simp at hy
 | z :: r,j,ps,h,k,i,x,y,hy,hx,hk => by
  simp only [pairsOf,Option.bind_eq_some_iff,Option.map_eq_some_iff] at h
  obtain ⟨p1,h1,p2,h2,rfl⟩:=h
  cases k with
  | zero =>
   simp only [List.getElem?_cons_zero,Option.some.injEq] at hy
   subst hy
   rw [Nat.add_zero] at hk ⊢
   have:=pairsAt_spec os 0 p1 h1 i x hx (by omega)
   rw [Nat.zero_add] at this
   exact this.imp_right fun ⟨a,b⟩ => ⟨a,fun c => List.mem_append_left _ (b c)⟩
  | succ k =>
   rw [show j + (k + 1) = j + 1 + k by omega] at hk ⊢
   exact (pairsOf_spec r (j + 1) p2 h2 k i x y (by simpa using hy) hx hk).imp_right fun ⟨a,b⟩ => ⟨a,fun c => List.mem_append_right _ (b c)⟩
theorem testBit_foldl (acc : List Nat) (k : Nat) : ∀ (ns : List Nat) (b : Nat),(ns.foldl (fun b i => b ||| (1 <<< i) ||| acc.getD i 0) b).testBit k = true → b.testBit k = true ∨ ∃ i ∈ ns,k = i ∨ (acc.getD i 0).testBit k = true
 | [],b,h => .inl h
 | n :: ns,b,h => by
  rcases testBit_foldl acc k ns _ h with h | ⟨i,hi,h⟩
  ·simp only [Nat.testBit_or,Bool.or_eq_true,Nat.testBit_shiftLeft,Bool.and_eq_true] at h
   rcases h with (h | h) | h
   ·exact .inl h
   ·refine .inr ⟨n,List.mem_cons_self,.inl ?_⟩
    obtain ⟨h1,h2⟩:=h
    have h3 : k - n = 0:=Nat.testBit_one_eq_true_iff_self_eq_zero.1 h2
    have h1:=of_decide_eq_true h1
    omega
   ·exact .inr ⟨n,List.mem_cons_self,.inr h⟩
  ·exact .inr ⟨i,List.mem_cons_of_mem _ hi,h⟩
theorem closeB_spec (D : Nat → Prop) : ∀ (r : List (List Nat)) (acc : List Nat) (all : List (List Nat)),(∀ i,i < acc.length → (∀ n ∈ all.getD i [],D n) → ∀ k,(acc.getD i 0).testBit k = true → D k) →
  (∀ i,i < all.length → D i → ∀ n ∈ all.getD i [],D n) → all.length = acc.length + r.length → (∀ i,i < r.length → all.getD (acc.length + i) [] = r.getD i []) →
  (∀ i,i < all.length → ∀ n ∈ all.getD i [],n < i) →
  ∀ i,i < all.length → (∀ n ∈ all.getD i [],D n) → ∀ k,((closeB acc r).getD i 0).testBit k = true → D k
 | [],acc,all,ha,hd,hl,hr,he,i,hi,hn,k,hk => ha i (by rw [hl] at hi; simpa using hi) hn k hk
 | ns :: r,acc,all,ha,hd,hl,hr,he,i,hi,hn,k,hk => by
  refine closeB_spec D r (acc ++ [bitsOf acc ns]) all (fun j hj hjn q hq => ?_) hd (by simp [hl]; omega) (fun j hj => ?_) he i hi hn k hk
  ·simp only [List.length_append,List.length_cons,List.length_nil] at hj
   rcases Nat.lt_or_ge j acc.length with h | h
   ·rw [List.getD_eq_getElem?_getD,List.getElem?_append_left h,← List.getD_eq_getElem?_getD] at hq
    exact ha j h hjn q hq
   ·have : j = acc.length:=by omega
    subst this
    rw [List.getD_eq_getElem?_getD,List.getElem?_append_right (Nat.le_refl _)] at hq
    simp only [Nat.sub_self,List.getElem?_cons_zero,Option.getD_some,bitsOf] at hq
    have hns : all.getD acc.length [] = ns:=by
     have:=hr 0 (by simp)
     simpa using this
    rcases testBit_foldl acc q ns 0 hq with h0 | ⟨n,hn',h0⟩
    ·simp at h0
    ·have hDn : D n:=hjn n (by rw [hns]; exact hn')
     rcases h0 with rfl | h0
     ·exact hDn
     ·have hlt : n < acc.length:=he acc.length (by rw [hl]; simp) n (by rw [hns]; exact hn')
      exact ha n hlt (hd n (by omega) hDn) q h0
  ·have:=hr (j + 1) (by simp; omega)
   simp only [List.length_append,List.length_cons,List.length_nil]
   rw [show acc.length + (0 + 1) + j = acc.length + (j + 1) by omega,this]
   simp
theorem elder_spec : ∀ (r : List (List Nat)) (i : Nat),elder i r = true → ∀ k,k < r.length → ∀ n ∈ r.getD k [],n < i + k
 | [],i,_,k,hk,_,_ => by simp at hk
 | ns :: r,i,h,k,hk,n,hn => by
  simp only [elder,Bool.and_eq_true,List.all_eq_true,decide_eq_true_eq] at h
  cases k with
  | zero => exact h.1 n (by simpa using hn)
  | succ k =>
   have:=elder_spec r (i + 1) h.2 k (by simpa using hk) n (by simpa using hn)
   omega
end Go.VI
namespace Go.VI
variable {P : Program}
theorem mapM_get {α β : Type} {f : α → Option β} : ∀ {l : List α} {r : List β},l.mapM f = some r → r.length = l.length ∧ ∀ (i : Nat) (x : α) (y : β),l[i]? = some x → r[i]? = some y → f x = some y
 | [],r,h => by simp at h; subst h; simp
 | x :: l,r,h => by
  simp only [List.mapM_cons,Option.bind_eq_bind,Option.bind_eq_some_iff] at h
  obtain ⟨y,hy,ys,hys,h⟩:=h
  cases h
  obtain ⟨h1,h2⟩:=mapM_get hys
  refine ⟨by simp [h1],fun i p q hp hq => ?_⟩
  cases i with
  | zero => simp at hp hq; subst hp; subst hq; exact hy
  | succ i => exact h2 i p q (by simpa using hp) (by simpa using hq)
theorem mem_needs {o : Oper} {n : Nat} : n ∈ needs o ↔ ∃ e ∈ o.after,Region.binds .any e = true ∧ e.on = n:=by
 simp only [needs,List.mem_filterMap,Array.mem_toList_iff]
 constructor
 ·rintro ⟨e,he,h⟩
  split at h
  ·cases h
   exact ⟨e,he,‹_›,rfl⟩
  ·cases h
 ·rintro ⟨e,he,h,rfl⟩
  exact ⟨e,he,by rw [if_pos h]⟩
def needsL (ops : Array Oper) : List (List Nat):=ops.toList.map needs
theorem needsL_at {ops : Array Oper} {i : Nat} {o : Oper} (h : ops[i]? = some o) : (needsL ops).getD i [] = needs o:=by
 simp [needsL,List.getD_eq_getElem?_getD,h]
structure Full (ops : Array Oper) (os : List AOper) (L0 : List It) (base : Nat) : Prop where
 at_ : ∀ x ∈ L0,os[x.i]? = some x.o ∧ base ≤ x.nid
 pair : ∀ x ∈ L0,∀ y ∈ L0,x.i < y.i → ((befores ops).getD y.i 0).testBit x.i = true ∨ (apartA x.o y.o = true ∧ compat x.fp y.fp = true)
 nid : ∀ x ∈ L0,∀ y ∈ L0,x.i < y.i → allocA x.o.op = true → x.nid < y.nid
 elder : elder 0 (needsL ops) = true
theorem game {P : Program} {cf : CF} {pv : AV → List AV → FP} (hcf : CfOk P cf) (hcp : CfPure cf pv) {ops : Array Oper} {os : List AOper} (hc : ops.toList.mapM (compOper P ops) = some os) {L0 : List It} {base : Nat} (G : Full ops os L0 base)
  {m0 : Mp} {F0 : Fz} {w0 : World} {e' : Env} {H' : Heap} {Q : Exit → Act → World → Prop}
  {ds : List Deferred} {ro : Option Nat} (hq : ∀ a' w' m' F',Sit P m' F' H' w' e' a' → Ext m0 F0 w0 m' F' w' → a'.defers = ds → Grew base m0 m' H' → Q .normal a' w') :
  ∀ (fuel : Nat) (L : List It) (listed : Array Bool) (m : Mp) (F : Fz) (H : Heap) (w : World) (e : Env) (a : Act),Sit P m F H w e a → a.defers = ds → Ext m0 F0 w0 m F w → Grew base m0 m H → RunL cf pv L (e,H) (e',H') →
   NidsLt L H.next → (∀ x ∈ L,allocA x.o.op = true → m x.nid = none) → (∀ x ∈ L,x ∈ L0) → L.Pairwise (fun x y => x.i < y.i) → (∀ i,listed.getD i true = false ↔ ∃ x ∈ L,x.i = i) → listed.size = ops.size →
   (∀ i,i < ops.size → listed.getD i true = true → ∀ n ∈ (needsL ops).getD i [],listed.getD n true = true) → L.length ≤ fuel → wpAnyIn (Wd ro) 0 P .any ops Q fuel listed a w:=by
 obtain ⟨hl,hget⟩:=mapM_get hc
 have hel : ∀ i,i < ops.size → ∀ n ∈ (needsL ops).getD i [],n < i:=fun i hi n hn => by
  have:=elder_spec (needsL ops) 0 G.elder i (by simpa [needsL] using hi) n hn
  omega
 have hopat : ∀ x ∈ L0,∃ o,ops[x.i]? = some o ∧ compOper P ops o = some x.o:=fun x hx => by
  have h1:=(G.at_ x hx).1
  have h2 : x.i < ops.size:=by
   have:=(List.getElem?_eq_some_iff.1 h1).1
   rw [hl] at this
   simpa using this
  exact ⟨ops[x.i],by simp [h2],hget x.i _ _ (by simp [h2]) h1⟩
 intro fuel
 induction fuel with
 | zero =>
  intro L listed m F H w e a hs hd hE hG hr hn hf hL hp hi hsz hdn hlen
  have : L = []:=List.eq_nil_of_length_eq_zero (by omega)
  subst this
  cases hr
  refine ⟨?_,hq a w m F hs hE hd hG⟩
  rw [List.eq_nil_iff_forall_not_mem]
  intro i hi'
  obtain ⟨x,hx,_⟩:=(hi i).1 (mem_ready.1 hi').1
  cases hx
 | succ fuel ih =>
  intro L listed m F H w e a hs hd hE hG hr hn hf hL hp hi hsz hdn hlen
  refine ⟨fun hempty => ?_,fun i hrd => ?_⟩
  ·cases L with
   | nil => cases hr; exact hq a w m F hs hE hd hG
   | cons x r =>
    exfalso
    have hx0:=hL x List.mem_cons_self
    obtain ⟨o,ho,_⟩:=hopat x hx0
    have hxs:=(Array.getElem?_eq_some_iff.1 ho).1
    have : x.i ∈ Region.ready .any ops listed:=mem_ready.2 ⟨(hi x.i).2 ⟨x,List.mem_cons_self,rfl⟩,o,ho,fun ed he hb => by
     have hlt:=hel x.i hxs ed.on (by rw [needsL_at ho]; exact mem_needs.2 ⟨ed,he,hb,rfl⟩)
     have h1 : listed.getD ed.on true = true:=by
      cases hh : listed.getD ed.on true with
      | true => rfl
      | false =>
       obtain ⟨z,hz,hzi⟩:=(hi ed.on).1 hh
       rcases List.mem_cons.1 hz with rfl | hz
       ·omega
       ·have:=List.rel_of_pairwise_cons hp hz
        omega
     have h2 : ed.on < listed.size:=by omega
     simpa [h2] using h1⟩
    rw [hempty] at this
    cases this
  ·obtain ⟨hun,o,ho,hall⟩:=mem_ready.1 hrd
   obtain ⟨y,hy,rfl⟩:=(hi i).1 hun
   obtain ⟨A,B,rfl⟩:=List.append_of_mem hy
   have hy0:=hL y hy
   have hys:=(Array.getElem?_eq_some_iff.1 ho).1
   rw [List.pairwise_append] at hp
   obtain ⟨hpA,hpB,hpAB⟩:=hp
   have hAlt : ∀ x ∈ A,x.i < y.i:=fun x hx => hpAB x hx y List.mem_cons_self
   have hBlt : ∀ x ∈ B,y.i < x.i:=fun x hx => List.rel_of_pairwise_cons hpB hx
   have hready : ∀ n ∈ (needsL ops).getD y.i [],listed.getD n true = true:=fun n hn' => by
    rw [needsL_at ho] at hn'
    obtain ⟨ed,he,hb,rfl⟩:=mem_needs.1 hn'
    have h1:=hall ed he hb
    have h2 : ed.on < listed.size:=by
     have:=hel y.i hys ed.on (by rw [needsL_at ho]; exact hn')
     omega
    simpa [h2] using h1
   have hA : ∀ x ∈ A,apartA x.o y.o = true ∧ compat x.fp y.fp = true:=fun x hx => by
    rcases G.pair x (hL x (by simp [hx])) y hy0 (hAlt x hx) with hb | hb
    ·exfalso
     have:=closeB_spec (fun n => listed.getD n true = true) (needsL ops) [] (needsL ops) (fun i hi => by simp at hi) (fun i hi' hD n hn' => hdn i (by simpa [needsL] using hi') hD n hn') (by simp) (fun i _ => by simp)
      (fun i hi' => hel i (by simpa [needsL] using hi')) y.i (by simpa [needsL] using hys) hready x.i hb
     have h0:=(hi x.i).2 ⟨x,by simp [hx],rfl⟩
     rw [h0] at this
     cases this
    ·exact hb
   obtain ⟨⟨e1,H1⟩,⟨hst,_⟩,hrest⟩:=front hcp A (e,H) hn hA hr
   obtain ⟨o',ho',hco⟩:=hopat y hy0
   rw [ho] at ho'
   cases ho'
   have hsnd:=oper_sound hcf hco (nid:=y.nid) (fun ha => ⟨hf y hy ha,Nat.le_of_lt (hn y hy ha)⟩) hs hd hst (Q:=Q)
    (ro:=ro) (next:=wpAnyIn (Wd ro) 0 P .any ops Q fuel (listed.setIfInBounds y.i true)) (fun a' w' m' F' hs' hE' hd' hD => by
     have hmem : ∀ x,x ∈ A ++ B → x ∈ A ++ y :: B:=fun x hx => by
      rcases List.mem_append.1 hx with h | h
      ·exact List.mem_append_left _ h
      ·exact List.mem_append_right _ (List.mem_cons_of_mem _ h)
     have hne : ∀ x ∈ A ++ B,x.i ≠ y.i:=fun x hx => by
      rcases List.mem_append.1 hx with h | h
      ·have:=hAlt x h; omega
      ·have:=hBlt x h; omega
     refine ih (A ++ B) (listed.setIfInBounds y.i true) m' F' H1 w' e1 a' hs' hd' (hE.trans hE') ⟨fun id mb hm => ?_,Nat.le_trans hG.le hD.le⟩ hrest
      (fun x hx ha => Nat.lt_of_lt_of_le (hn x (hmem x hx) ha) hD.le) (fun x hx ha => ?_) (fun x hx => hL x (hmem x hx)) ?_ (fun j => ?_) (by simp [hsz]) (fun j hj hlj n hn' => ?_) (by simp at hlen ⊢; omega)
     ·rcases hD.dom id mb hm with h | h | h
      ·exact hG.dom id mb h
      ·unfold alOf at h
       split at h
       ·cases h; exact .inr (G.at_ y hy0).2
       ·cases h
      ·exact .inr (Nat.le_trans hG.le h)
     ·cases hm : m' x.nid with
      | none => rfl
      | some mb =>
       exfalso
       rcases hD.dom _ _ hm with h | h | h
       ·rw [hf x (hmem x hx) ha] at h
        cases h
       ·unfold alOf at h
        split at h
        ·rename_i hay
         injection h with h
         rcases Nat.lt_or_gt_of_ne (hne x hx) with h2 | h2
         ·have:=G.nid x (hL x (hmem x hx)) y hy0 h2 ha
          omega
         ·have:=G.nid y hy0 x (hL x (hmem x hx)) h2 hay
          omega
        ·cases h
       ·have:=hn x (hmem x hx) ha
        have h' : H.next ≤ x.nid:=h
        omega
     ·rw [List.pairwise_append]
      exact ⟨hpA,(List.pairwise_cons.1 hpB).2,fun x hx z hz => hpAB x hx z (List.mem_cons_of_mem _ hz)⟩
     ·have hyl : y.i < listed.size:=by omega
      by_cases hj : j = y.i
      ·subst hj
       constructor
       ·intro h
        simp [hyl] at h
       ·rintro ⟨x,hx,hxi⟩
        exact absurd hxi (hne x hx)
      ·have h1 : (listed.setIfInBounds y.i true).getD j true = listed.getD j true:=by
        simp only [Array.getD_eq_getD_getElem?]
        rw [Array.getElem?_setIfInBounds_ne (Ne.symm hj)]
       rw [h1,hi j]
       constructor
       ·rintro ⟨x,hx,rfl⟩
        refine ⟨x,?_,rfl⟩
        rcases List.mem_append.1 hx with h | h
        ·exact List.mem_append_left _ h
        ·rcases List.mem_cons.1 h with rfl | h
         ·exact absurd rfl hj
         ·exact List.mem_append_right _ h
       ·rintro ⟨x,hx,rfl⟩
        exact ⟨x,hmem x hx,rfl⟩
     ·have mono : ∀ q,listed.getD q true = true → (listed.setIfInBounds y.i true).getD q true = true:=fun q hq => by
       by_cases hqy : q = y.i
       ·subst hqy
        have hyl : y.i < listed.size:=by omega
        simp [hyl]
       ·simp only [Array.getD_eq_getD_getElem?] at hq ⊢
        rw [Array.getElem?_setIfInBounds_ne (Ne.symm hqy)]
        exact hq
      by_cases hj' : j = y.i
      ·subst hj'
       exact mono n (hready n hn')
      ·refine mono n (hdn j hj ?_ n hn')
       simp only [Array.getD_eq_getD_getElem?] at hlj ⊢
       rwa [Array.getElem?_setIfInBounds_ne (Ne.symm hj')] at hlj)
   unfold wpOpIn
   simp only [ho]
   split
   ·rename_i hw
    rw [if_pos hw] at hsnd
    exact hsnd
   ·rename_i hw
    rw [if_neg hw] at hsnd
    exact ⟨fun _ _ => trivial,hsnd⟩
theorem Inv.drew {m : Mp} {F : Fz} {H : Heap} {w : World} (h : Inv P m F H w) (n : Nat) : Inv P m F H { w with drawn:=n } :=
 ⟨h.fz,h.lt,fun id mb B h1 h2 => by
  have:=h.blk id mb B h1 h2
  cases B <;> exact this,h.inj⟩
theorem live_pad {H : Heap} {n id : Nat} (h : live (H.pad n) id) (hl : id < H.next) : live H id:=by
 obtain ⟨B,h1,h2⟩:=h
 rw [Heap.get_pad _ _ _ hl] at h1
 exact ⟨B,h1,h2⟩
theorem Inv.pad {m : Mp} {F : Fz} {H : Heap} {w : World} (h : Inv P m F H w) (n : Nat) : Inv P m F (H.pad n) w :=
 ⟨h.fz,fun id mb hm => by
  have:=h.lt id mb hm
  rw [Heap.next_pad]
  omega,fun id mb B hm hB => by
  rw [Heap.get_pad _ _ _ (h.lt id mb hm).1] at hB
  exact h.blk id mb B hm hB,fun i j mi mj hi hj li lj e => h.inj i j mi mj hi hj (live_pad li (h.lt _ _ hi).1) (live_pad lj (h.lt _ _ hj).1) e⟩
theorem drawn_sound {P : Program} (hP : P.follows .mixedOrders = true) {cf : CF} {pv : AV → List AV → FP} (hcf : CfOk P cf) (hcp : CfPure cf pv) {ops : Array Oper} {os : List AOper} (hc : ops.toList.mapM (compOper P ops) = some os)
  {prs : List (Nat × Nat)} (hprs : prsOf ops os = some prs) {m : Mp} {F : Fz} {H H' : Heap} {w : World} {e e' : Env} {a : Act} {ds : List Deferred} {ro : Option Nat} (hs : Sit P m F H w e a) (hd : a.defers = ds)
  (h : drawn cf pv os prs e H = some (e',H')) (id : Nat) {Q : Exit → Act → World → Prop}
  (hq : ∀ a' w' m' F',Sit P m' F' H' w' e' a' → Ext m F w m' F' w' → a'.defers = ds → Grew H.next m m' H' → Q .normal a' w') : (Code.region id ops true).wpIn (Wd ro) 0 P Q a w:=by
 simp only [drawn,Option.bind_eq_some_iff] at h
 obtain ⟨⟨fs,e2,H2⟩,hrun,h⟩:=h
 split at h
 rotate_left
 ·cases h
 rename_i hall
 simp only [Option.some.injEq,Prod.mk.injEq] at h
 obtain ⟨rfl,rfl⟩:=h
 unfold prsOf at hprs
 split at hprs
 rotate_left
 ·cases hprs
 rename_i hel
 obtain ⟨hR,hfl⟩:=runs_RunL os 0 H.next e e2 (H.pad (nAls os)) H2 fs hrun
 obtain ⟨hl,hget⟩:=mapM_get hc
 have hlen : os.length = ops.size:=by rw [hl]; simp
 rw [List.all_eq_true] at hall
 have hfp : ∀ x ∈ itemsOf 0 H.next os fs,∃ e0 K K',x.fp = fqO pv x.nid e0 x.o K K':=by
  have key : ∀ (L : List It) (s s' : Env × Heap),RunL cf pv L s s' → ∀ x ∈ L,∃ e0 K K',x.fp = fqO pv x.nid e0 x.o K K':=by
   intro L
   induction L with
   | nil => intro s s' _ x hx; cases hx
   | cons y L ih =>
    intro s s' hr x hx
    obtain ⟨s1,⟨_,hy⟩,hr⟩:=hr
    rcases List.mem_cons.1 hx with rfl | hx
    ·exact ⟨s.1,_,_,hy.symm⟩
    ·exact ih s1 s' hr x hx
  exact key _ _ _ hR
 have G : Full ops os (itemsOf 0 H.next os fs) H.next:=by
  refine ⟨fun x hx => ?_,fun x hx y hy hlt => ?_,fun x hx y hy hlt ha => items_nid _ _ _ _ x y hx hy hlt ha,hel⟩
  ·obtain ⟨_,b,_,d,_⟩:=items_spec _ _ _ _ x hx
   exact ⟨by simpa using b,d⟩
  ·obtain ⟨_,bx,cx,_,_⟩:=items_spec _ _ _ _ x hx
   obtain ⟨_,by_,cy,_,_⟩:=items_spec _ _ _ _ y hy
   have:=pairsOf_spec os 0 prs hprs y.i x.i x.o y.o (by simpa using by_) (by simpa using bx) (by omega)
   rw [Nat.zero_add] at this
   refine this.imp_right fun ⟨h1,h2⟩ => ⟨h1,?_⟩
   by_cases hcl : clash (clsA x.o.op) (clsA y.o.op) = true
   ·have:=hall _ (h2 hcl)
    rw [cx,cy]
    simpa using this
   ·obtain ⟨ex,kx,kx',hx1⟩:=hfp x hx
    obtain ⟨ey,ky,ky',hy1⟩:=hfp y hy
    rw [hx1,hy1]
    refine clash_compat (fun ha _ => ?_) (by simpa using hcl)
    have:=items_nid _ _ _ _ x y hx hy hlt ha
    omega
 apply wpIn_region_any hP
 have hidx:=items_idx os 0 H.next fs
 refine game hcf hcp hc G (m0:=m) (F0:=F) (w0:=w) hq ops.size (itemsOf 0 H.next os fs) (Array.replicate ops.size false) m F (H.pad (nAls os)) _ e a ⟨(hs.inv.pad _).drew _,hs.env⟩ hd
  ⟨MLe.refl m,FLe.refl F,Nat.le_refl _,rfl,rfl,rfl,fun _ _ _ => rfl,fun _ _ h => .inl h,fun _ _ _ h => .inl h⟩ ⟨fun _ _ h => .inl h,by rw [Heap.next_pad]; omega⟩ hR
  (fun x hx ha => by rw [Heap.next_pad]; exact (items_spec _ _ _ _ x hx).2.2.2.2 ha) (fun x hx ha => ?_) (fun x hx => hx) ?_ (fun i => ?_) (by simp) (fun i hi hli => ?_) ?_
 ·have:=(items_spec _ _ _ _ x hx).2.2.2.1
  cases hm : m x.nid with
  | none => rfl
  | some mb =>
   have:=(hs.inv.lt _ _ hm).1
   omega
 ·have : ((itemsOf 0 H.next os fs).map (·.i)).Pairwise (· < ·):=by
   rw [hidx]
   exact List.pairwise_lt_range'
  rw [List.pairwise_map] at this
  exact this
 ·have : i ∈ (itemsOf 0 H.next os fs).map (·.i) ↔ i < ops.size:=by
   rw [hidx,List.mem_range',← hlen]
   constructor
   ·rintro ⟨k,hk,rfl⟩; omega
   ·intro hi; exact ⟨i,hi,by omega⟩
  rw [List.mem_map] at this
  rw [this]
  constructor
  ·intro h
   apply Classical.byContradiction
   intro hn
   simp [hn] at h
  ·intro h
   simp [h]
 ·simp [hi] at hli
 ·have : (itemsOf 0 H.next os fs).length = os.length:=by
   have:=congrArg List.length hidx
   simpa using this
  omega
end Go.VI
namespace Go.VI
variable {P : Program}
def noCells : Obj → Bool
 | .cells .. => false
 | _ => true
theorem put_ne {w : World} {b : Nat} {o : Obj} {k : Nat} (h : k ≠ b) : (w.putObj b o).heap[k]? = w.heap[k]?:=World.putObj_heap_other h
theorem cell_none {w : World} {D o : Nat} {ob : Obj} (h : w.heap[D]? = some ob) (hc : noCells ob = true) : w.cell? ⟨D,o,none⟩ = none:=by
 cases ob <;> simp_all [World.cell?,noCells]
theorem Inv.no_fz {m : Mp} {F : Fz} {H : Heap} {w : World} (h : Inv P m F H w) {D : Nat} {ob : Obj} (hD : w.heap[D]? = some ob) (hc : noCells ob = true) (o : Nat) : F D o = none:=by
 cases e : F D o with
 | none => rfl
 | some v => have:=h.fz D o v e; rw [cell_none hD hc] at this; cases this
theorem Inv.putUn {m : Mp} {F : Fz} {H : Heap} {w : World} (h : Inv P m F H w) {D : Nat} {ob : Obj} (hD : w.heap[D]? = some ob) (hc : noCells ob = true) (hn : ∀ id mb,m id = some mb → mb.cb ≠ D) (o : Obj) : Inv P m F H (w.putObj D o):=by
 refine h.next (MLe.refl m) (FLe.refl F) (fun b o' v hv => ?_) (fun j mj hj => ?_) (fun j mj B hj hB => ?_) h.inj
 ·have : b ≠ D:=fun e => by rw [e,h.no_fz hD hc] at hv; cases hv
  rw [cell_of_heap (put_ne this)]
  exact h.fz b o' v hv
 ·simpa using h.lt j mj hj
 ·exact .inl ⟨hj,hB,put_ne (hn j mj hj),fun _ _ hv => hv⟩
theorem Ext.putUn {m m' : Mp} {F F' : Fz} {w w' : World} (h : Ext m F w m' F' w') {D : Nat} (hD : w.heap.size ≤ D) (o : Obj) : Ext m F w m' F' (w'.putObj D o) :=
 ⟨h.mm,h.ff,by simpa using h.sz,h.tape,h.os,h.out,fun b hb hn => (put_ne (by omega)).trans (h.blk b hb hn),h.mn,h.fn⟩
theorem Inv.allocUn {m : Mp} {F : Fz} {H : Heap} {w : World} (h : Inv P m F H w) (o : Obj) : Inv P m F H (w.alloc o) ∧ Ext m F w m F (w.alloc o):=by
 refine ⟨h.next (MLe.refl m) (FLe.refl F) (fun b o' v hv => ?_) (fun j mj hj => ?_) (fun j mj B hj hB => ?_) h.inj,?_⟩
 ·rw [cell_of_heap (heap_alloc_ne (by have:=h.fz_lt hv; omega))]
  exact h.fz b o' v hv
 ·have:=h.lt j mj hj
  simp
  omega
 ·exact .inl ⟨hj,hB,heap_alloc_ne (by have:=(h.lt j mj hj).2; omega),fun _ _ hv => hv⟩
 ·exact ⟨MLe.refl m,FLe.refl F,by simp,rfl,rfl,rfl,fun b hb _ => heap_alloc_ne (by omega),fun _ _ h => .inl h,fun _ _ _ h => .inl h⟩
theorem Inv.putLoop {m : Mp} {F : Fz} {H : Heap} {w : World} (h : Inv P m F H w) {id : Nat} {mb : MB} (hm : m id = some mb) (hl : live H id) {r r' : Loop} (hr : w.heap[mb.cb]? = some (.loop r)) {B' : Blk} (hB : BlkR P m F (w.putObj mb.cb (.loop r')) mb B') :
  Inv P m F (H.set id B') (w.putObj mb.cb (.loop r')) ∧ Ext m F w m F (w.putObj mb.cb (.loop r')):=by
 refine ⟨h.next (MLe.refl m) (FLe.refl F) (fun b o' v hv => ?_) (fun j mj hj => ?_) (fun j mj B hj hB2 => ?_) (fun i j mi mj hi hj li lj e => ?_),?_⟩
 ·have : b ≠ mb.cb:=fun e => by rw [e,h.no_fz hr rfl] at hv; cases hv
  rw [cell_of_heap (put_ne this)]
  exact h.fz b o' v hv
 ·simpa using h.lt j mj hj
 ·by_cases e : j = id
  ·subst e
   rw [Heap.get_set_self _ (h.lt _ _ hm).1] at hB2
   cases hB2
   rw [hm] at hj
   cases hj
   exact .inr hB
  ·rw [Heap.get_set_ne _ e] at hB2
   by_cases hd : B = .dead
   ·subst hd
    exact .inr trivial
   ·exact .inl ⟨hj,hB2,put_ne (cb_other h hm hj hl (live_of hB2 hd) e),fun _ _ hv => hv⟩
 ·exact h.inj i j mi mj hi hj (live_set li (.inl hl)) (live_set lj (.inl hl)) e
 ·exact ⟨MLe.refl m,FLe.refl F,by simp,rfl,rfl,rfl,fun b _ hb => put_ne (fun e => hb id mb hm e.symm),fun _ _ x => .inl x,fun _ _ _ x => .inl x⟩
theorem leaves_marks {fn : Func} {tmps : Array Value} {R : Ending → World → Prop} {b0 : Nat} {m0 m : Mp} {F0 F : Fz} {H : Heap} {w0 : World} (hb : w0.heap.size ≤ b0)
  (hR : ∀ w',Inv P m F H w' → Ext m0 F0 w0 m F w' → ∃ v,(results fn tmps).run P w' = .ok v w' ∧ R (.returned v) w') : ∀ (ds : List Deferred) (w : World),Inv P m F H w → Ext m0 F0 w0 m F w → Marks b0 m w ds →
  LeavesInM (Wd none) 0 P fn tmps R ds .returning w
 | [],w,hI,hE,_ => hR w hI hE
 | d :: ds,w,hI,hE,hM => by
  obtain ⟨D,rfl,h2,h3,h4⟩:=hM.all d List.mem_cons_self
  refine ⟨by simp,.inl ⟨D,w.putObj D (.deferred none),rfl,run_takeDeferred h2,?_⟩⟩
  refine leaves_marks hb hR ds _ (hI.putUn h2 rfl h4 _) (hE.putUn (by omega) _) ⟨fun d' hd' => ?_,(List.pairwise_cons.1 hM.two).2⟩
  obtain ⟨D',e1,e2,e3,e4⟩:=hM.all d' (List.mem_cons_of_mem _ hd')
  refine ⟨D',e1,(put_ne ?_).trans e2,e3,e4⟩
  subst e1
  exact fun e => (List.pairwise_cons.1 hM.two).1 _ hd' D D' rfl rfl e.symm
theorem EnvR.set {m : Mp} {F : Fz} {e : Env} {tmps : Array Value} (h : EnvR m F e tmps) (t : Nat) {v : AV} {u : Value} (hv : VR m F v u) : EnvR m F (e.set t v) (tmps.setIfInBounds t u) :=
 EnvR.put (a:={ tmps:=tmps,defers:=[] }) h (some t) hv
theorem EnvR.setAll {m : Mp} {F : Fz} : ∀ (ps : List Nat) (asx : List AV) (us : List Value) (e : Env) (tmps : Array Value),EnvR m F e tmps → us.length = asx.length → (∀ (i : Nat) (c : AV),asx[i]? = some c → VR m F c (us.getD i undef)) →
  EnvR m F (Go.VI.setAll e ps asx) ((ps.zip us).foldl (fun t (p : Nat × Value) => t.setIfInBounds p.1 p.2) tmps)
 | [],asx,us,e,tmps,h,_,_ => by cases asx <;> exact h
 | p :: ps,[],us,e,tmps,h,hl,_ => by
  obtain rfl : us = []:=List.eq_nil_of_length_eq_zero hl
  exact h
 | p :: ps,a :: asx,[],e,tmps,h,hl,_ => by cases hl
 | p :: ps,a :: asx,u :: us,e,tmps,h,hl,hv => by
  simp only [Go.VI.setAll,List.zip_cons_cons,List.foldl_cons]
  exact EnvR.setAll ps asx us _ _ (h.set p (hv 0 a rfl)) (by simpa using hl) (fun i c hc => hv (i + 1) c (by simpa using hc))
theorem vr_yld {m : Mp} {F : Fz} {id : Nat} {v : Value} (h : VR m F (.yld id) v) : ∃ mb,m id = some mb ∧ v = .func (.yield mb.cb) #[] #[]:=by
 cases h with
 | fz h => cases h
 | yld h => exact ⟨_,h,rfl⟩
end Go.VI
namespace Go.VI
variable {P : Program}
section
variable {P : Program}
theorem opers_sound {cf : CF} (hcf : CfOk P cf) {ops : Array Oper} {os : List AOper} (hc : ops.toList.mapM (compOper P ops) = some os) {Q : Exit → Act → World → Prop} {ro : Option Nat} {ds : List Deferred} : ∀ (n k : Nat) (m : Mp) (F : Fz) (H H' : Heap) (w : World) (e e' : Env) (a : Act),
  n + k = ops.size → Sit P m F H w e a → a.defers = ds → opers cf (os.drop k) e H = some (e',H') → (∀ a' w' m' F',Sit P m' F' H' w' e' a' → Ext m F w m' F' w' → a'.defers = ds → Grew H.next m m' H' → Q .normal a' w') →
  wpOpsIn (Wd ro) 0 P ops Q (List.range' k n) a w:=by
 obtain ⟨hl,hget⟩:=mapM_get hc
 intro n
 induction n with
 | zero =>
  intro k m F H H' w e e' a hnk hs hd h hq
  have : os.drop k = []:=by apply List.drop_eq_nil_of_le; rw [hl]; simp; omega
  rw [this] at h
  simp [opers] at h
  obtain ⟨rfl,rfl⟩:=h
  exact hq a w m F hs (Ext.refl m F w) hd (Grew.refl m H)
 | succ n ih =>
  intro k m F H H' w e e' a hnk hs hd h hq
  have hk : k < ops.size:=by omega
  have hko : k < os.length:=by rw [hl]; simpa using hk
  rw [List.drop_eq_getElem_cons hko] at h
  simp only [opers,Option.bind_eq_some_iff] at h
  obtain ⟨⟨e1,H1⟩,h1,h⟩:=h
  have hok : ops[k]? = some ops[k]:=Array.getElem?_eq_getElem hk
  have hco:=hget k ops[k] os[k] (by simp [hk]) (List.getElem?_eq_getElem hko)
  rw [List.range'_succ]
  simp only [wpOpsIn,hok]
  have:=oper_sound hcf hco (fun _ => hs.inv.free) hs hd h1 (ro:=ro) (next:=wpOpsIn (Wd ro) 0 P ops Q (List.range' (k + 1) n)) (Q:=Q) (fun a' w' m' F' hs' hE hd' hG => ih (k + 1) m' F' H1 H' w' e1 e' a' (by omega) hs' hd' h (fun a'' w'' m'' F'' s'' E'' d'' G'' => hq a'' w'' m'' F'' s'' (hE.trans E'') d'' (hG.grew.trans G'')))
  split
  ·rename_i hw
   rw [if_pos hw] at this
   exact this
  ·rename_i hw
   rw [if_neg hw] at this
   exact ⟨fun _ _ => trivial,this⟩
theorem region_sound {cf : CF} (hcf : CfOk P cf) {ops : Array Oper} {os : List AOper} (hc : ops.toList.mapM (compOper P ops) = some os) {m : Mp} {F : Fz} {H H' : Heap} {w : World} {e e' : Env} {a : Act} {ro : Option Nat} {b0 : Nat} (hs : Sit P m F H w e a) (hd : Marks b0 m w a.defers)
  (h : opers cf os e H = some (e',H')) (id : Nat) : (Code.region id ops false).wpIn (Wd ro) 0 P (CodePost P b0 m F H w .normal e' H') a w:=by
 apply wpIn_region
 rw [List.range_eq_range']
 exact opers_sound hcf hc ops.size 0 m F H H' w e e' a (by omega) hs rfl (by simpa using h) (fun a' w' m' F' hs' hE hd' hG => ⟨rfl,m',F',hs',hE,by rw [hd']; exact hd.ext hE,hG⟩)
theorem resOf_sound {m : Mp} {F : Fz} {H : Heap} {w : World} {e : Env} {tmps : Array Value} (hI : Inv P m F H w) (hE : EnvR m F e tmps) {r : ResultVar} {ar : ARes} (hc : compRes P r = some ar) {v : AV} (h : resOf H e ar = some v) :
  ∃ u,(match r with | .tmp t => (pure (tmps.getD t undef) : Sem Value) | .cell a t => (do loadVar t (← asAddr (tmps.getD a undef)))).run P w = .ok u w ∧ VR m F v u:=by
 cases r with
 | tmp t =>
  simp only [compRes,Option.some.injEq] at hc
  subst hc
  simp only [resOf,Option.some.injEq] at h
  subst h
  exact ⟨_,rfl,hE.val t⟩
 | cell s t =>
  simp only [compRes,Option.bind_eq_some_iff,Option.map_eq_some_iff] at hc
  obtain ⟨g,hg,i,hi,rfl⟩:=hc
  obtain ⟨ti,z,i1,i2,rfl,_⟩:=infoA_some hi
  simp only [resOf,Option.bind_eq_some_iff] at h
  obtain ⟨cs,hcs,hp⟩:=h
  obtain ⟨ad,u,he,hr,hv⟩:=loaded hI (hE.val s) hcs hg i1 rfl hp
  refine ⟨u,?_,hv⟩
  simp [he,asAddr,hr]
theorem mapM_run {α : Type} {f : α → Sem Value} {g : α → Option AV} {m : Mp} {F : Fz} {w : World} : ∀ (l : List α) (vs : List AV),l.mapM g = some vs → (∀ x ∈ l,∀ v,g x = some v → ∃ u,(f x).run P w = .ok u w ∧ VR m F v u) →
  ∃ us : List Value,(l.mapM f).run P w = .ok us w ∧ us.length = vs.length ∧ ∀ (i : Nat) (c : AV),vs[i]? = some c → VR m F c (us.getD i undef)
 | [],vs,h,_ => by simp at h; subst h; exact ⟨[],rfl,rfl,by simp⟩
 | x :: l,vs,h,hf => by
  simp only [List.mapM_cons,Option.bind_eq_bind,Option.bind_eq_some_iff] at h
  obtain ⟨v,hv,vs',hvs,h⟩:=h
  cases h
  obtain ⟨u,hu,hr⟩:=hf x List.mem_cons_self v hv
  obtain ⟨us,h1,h2,h3⟩:=mapM_run l vs' hvs (fun y hy => hf y (List.mem_cons_of_mem _ hy))
  refine ⟨u :: us,?_,by simp [h2],fun i c hc => ?_⟩
  ·rw [List.mapM_cons]
   simp only [Sem.run_bind,hu,h1,Result.andThen_ok,Sem.run_pure]
  ·cases i with
   | zero => simp at hc; subst hc; exact hr
   | succ i => exact h3 i c (by simpa using hc)
theorem results_sound {m : Mp} {F : Fz} {H : Heap} {w : World} {e : Env} {tmps : Array Value} (hI : Inv P m F H w) (hE : EnvR m F e tmps) {fn : Func} {rs : List ARes} (hc : fn.results.toList.mapM (compRes P) = some rs) {v : AV} (h : resultsA H e rs = some v) :
  ∃ u,(results fn tmps).run P w = .ok u w ∧ VR m F v u:=by
 simp only [resultsA,Option.map_eq_some_iff] at h
 obtain ⟨vs,hvs,h⟩:=h
 obtain ⟨hl,hget⟩:=mapM_get hc
 have hvs' : fn.results.toList.mapM (fun r => (compRes P r).bind (resOf H e)) = some vs:=by
  clear h
  generalize fn.results.toList = l at hc hl hget
  induction l generalizing rs vs with
  | nil => simp at hc; subst hc; simpa using hvs
  | cons r l ih =>
   simp only [List.mapM_cons,Option.bind_eq_bind,Option.bind_eq_some_iff] at hc
   obtain ⟨ar,har,rs',hrs',hc⟩:=hc
   cases hc
   simp only [List.mapM_cons,Option.bind_eq_bind,Option.bind_eq_some_iff] at hvs
   obtain ⟨v,hv,vs',hvs',hvs⟩:=hvs
   cases hvs
   obtain ⟨l1,l2⟩:=mapM_get hrs'
   have:=ih vs' hvs' hrs' l1 l2
   simp only [List.mapM_cons,Option.bind_eq_bind,har,Option.bind_some,hv,this]
   rfl
 obtain ⟨us,h1,h2,h3⟩:=mapM_run (P:=P) (m:=m) (F:=F) (w:=w) (f:=fun r => match r with | .tmp t => (pure (tmps.getD t undef) : Sem Value) | .cell a t => (do loadVar t (← asAddr (tmps.getD a undef)))) fn.results.toList vs hvs' (fun r _ v hv => by
  simp only [Option.bind_eq_some_iff] at hv
  obtain ⟨ar,har,hv⟩:=hv
  exact resOf_sound hI hE har hv)
 have hrun : (results fn tmps).run P w = .ok (if h : us.toArray.size = 1 then us.toArray[0] else .tuple us.toArray) w:=by
  unfold results
  rw [Array.mapM_eq_mapM_toList]
  simp only [Sem.run_bind,Sem.run_map]
  erw [h1]
  rfl
 refine ⟨_,hrun,?_⟩
 subst h
 match vs,us,h2,h3 with
 | [],[],_,_ => exact .tup rfl (by simp)
 | [v],[u],_,h3 => exact h3 0 v rfl
 | v :: v2 :: vs,u :: u2 :: us,h2,h3 =>
  rw [dif_neg (by simp)]
  exact .tup (by simpa using h2) (fun i c hc => by simpa [List.getD_eq_getElem?_getD,Array.getD_eq_getD_getElem?] using h3 i c hc)
def ExOk (P : Program) (ex : EX) : Prop:=∀ (c : Code) (ac : ACode),compC P c = some ac → ∀ (e e' : Env) (H H' : Heap) (x : AExit),ex ac e H = some (x,e',H') → ∀ (ro : Option Nat),(ro = none ∨ noR c = true) →
  ∀ (b0 : Nat) (m : Mp) (F : Fz) (w : World) (a : Act),Sit P m F H w e a → b0 ≤ w.heap.size → Marks b0 m w a.defers → c.wpIn (Wd ro) 0 P (CodePost P b0 m F H w x e' H') a w
theorem grew_set {n : Nat} {m m' : Mp} {H : Heap} {id : Nat} {B : Blk} (h : Grew n m m' H) : Grew n m m' (H.set id B):=⟨h.dom,by simpa using h.le⟩
theorem round_sound {ex : EX} (hex : ExOk P ex) {id : Nat} {args : List AV} {H H' : Heap} {r : AV} (h : roundA ex id args H = some (r,H')) {m : Mp} {F : Fz} {w : World} {mb : MB} {vs : Array Value} (hI : Inv P m F H w) (hm : m id = some mb) (hv : VRs m F args vs) :
  ∃ fn tmps asg body,(Instr.yield mb.cb vs).run P w = .ok (.round mb.cb fn tmps asg body) w ∧ RoundIn Fence.wide 0 P mb.cb fn tmps asg body w (CallPost P m F H w r H'):=by
 unfold roundA at h
 split at h
 rotate_left
 ·cases h
 rename_i e ps asg body hg
 obtain ⟨rc,hr1,hr2,hr3,hr4,hr5,hr6,hr7,hr8,hr9⟩:=hI.blk id mb _ hm hg
 split at h
 rotate_left
 ·cases h
 rename_i hlen
 have hsz : vs.size = rc.params.size:=by rw [hv.len,hlen,← hr4]; simp
 simp only [Option.bind_eq_some_iff] at h
 obtain ⟨⟨x,e1,H1⟩,h1,h⟩:=h
 split at h
 rotate_left
 ·cases h
 rename_i hx
 have hx : x = .normal:=hx
 subst hx
 simp only [Option.bind_eq_some_iff] at h
 obtain ⟨H1b,hb,⟨x,e2,H2⟩,h2,h⟩:=h
 refine ⟨_,_,_,_,run_yield hr1 hsz,roundIn_of_wpIn trivial ?_⟩
 show rc.assign.wpIn (Wd (some mb.cb)) 0 P _ _ w
 have henv : EnvR m F (setAll e ps args) ((rc.params.zip vs).foldl (fun tmps (t,a) => tmps.setIfInBounds t a) rc.tmps):=by
  have:=EnvR.setAll ps args vs.toList e rc.tmps hr3 (by simpa using hv.len) (fun i c hc => by simpa [List.getD_eq_getElem?_getD,Array.getD_eq_getD_getElem?] using hv.val i c hc)
  rw [← hr4,← Array.toList_zip,Array.foldl_toList] at this
  subst hr4
  exact this
 refine wpIn_mono (hex _ _ hr5 _ _ _ _ _ h1 (some mb.cb) (.inr hr7) w.heap.size m F w _ ⟨hI,henv⟩ (Nat.le_refl _) (Marks.nil _ _ _)) fun X a1 w1 hp => ?_
 obtain ⟨hX,m1,F1,hs1,hE1,hd1,hG1⟩:=hp
 have hX : X = .normal:=hX
 subst hX
 unfold roundB at hb
 split at hb
 rotate_left
 ·cases hb
 rename_i e3 ps3 asg3 body3 hg1
 cases hb
 have hm1:=hE1.mm _ _ hm
 obtain ⟨rc1,q1,q2,q3,q4,q5,q6,q7,q8,q9⟩:=hs1.inv.blk id mb _ hm1 hg1
 refine ⟨_,run_beginRound q1 q2,?_⟩
 have hlt1:=(Array.getElem?_eq_some_iff.1 q1).1
 obtain ⟨hI2,hE2⟩:=hs1.inv.putLoop hm1 (live_of hg1 (by simp)) (r':={ rc1 with state:=.busy }) q1 (B':=.loop .busy e3 ps3 asg3 body3 none)
  ⟨_,World.putObj_heap_same hlt1,rfl,q3,q4,q5,q6,q7,q8,q9⟩
 have hG2:=grew_set (id:=id) (B:=.loop .busy e3 ps3 asg3 body3 none) hG1
 refine wpIn_mono (hex _ _ hr6 _ _ _ _ _ h2 (some mb.cb) (.inr hr8) w.heap.size m1 F1 _ a1 ⟨hI2,hs1.env⟩ (by have:=hE1.sz; simpa using this) (hd1.ext hE2)) fun X a2 w2 hp => ?_
 obtain ⟨hX,m2,F2,hs2,hE3,hd2,hG3⟩:=hp
 have hm2:=hE3.mm _ _ hm1
 have hEa:=(hE1.trans hE2).trans hE3
 have hGa : Grew H.next m m2 H2:=hG2.trans hG3
 unfold roundE at h
 split at h
 rotate_left
 ·cases h
 rename_i e4 ps4 asg4 body4 hg2
 obtain ⟨rc2,p1,p2,p3,p4,p5,p6,p7,p8,p9⟩:=hs2.inv.blk id mb _ hm2 hg2
 have hlt2:=(Array.getElem?_eq_some_iff.1 p1).1
 have fin : ∀ (jump : Option Code) (B : Blk),BlkR P m2 F2 (w2.putObj mb.cb (.loop { rc2 with state:=if jump.isNone then .ready else .done,pending:=jump })) mb B → r = .sc (.bool jump.isNone) → H' = H2.set id B →
   ∃ v w',(Instr.endRound mb.cb jump).run P w2 = .ok v w' ∧ CallPost P m F H w r H' (.returned v) w':=fun jump B hB e1 e2 => by
  obtain ⟨hI3,hE4⟩:=hs2.inv.putLoop hm2 (live_of hg2 (by simp)) p1 hB
  refine ⟨_,_,run_endRound jump p1,_,m2,F2,rfl,?_,?_,hEa.trans hE4,?_⟩
  ·rw [e1]; exact .fz (.sc rfl)
  ·rw [e2]; exact hI3
  ·rw [e2]; exact grew_set hGa
 cases x with
 | normal =>
  cases hX
  simp only [if_true,Option.some.injEq,Prod.mk.injEq] at h
  exact fin none (.loop .ready e4 ps4 asg4 body4 none) ⟨_,World.putObj_heap_same hlt2,rfl,p3,p4,p5,p6,p7,p8,rfl⟩ h.1.symm h.2.symm
 | ret =>
  cases hX
  simp only [reduceCtorEq,if_false,Option.some.injEq,Prod.mk.injEq] at h
  exact fin (some .ret) (.loop .done e4 ps4 asg4 body4 (some .ret)) ⟨_,World.putObj_heap_same hlt2,rfl,p3,p4,p5,p6,p7,p8,rfl⟩ h.1.symm h.2.symm
 | exit q =>
  cases hX
  simp only [reduceCtorEq,if_false,Option.some.injEq,Prod.mk.injEq] at h
  exact fin (some (.exit q)) (.loop .done e4 ps4 asg4 body4 (some (.exit q))) ⟨_,World.putObj_heap_same hlt2,rfl,p3,p4,p5,p6,p7,p8,rfl⟩ h.1.symm h.2.symm
theorem calls_of {ft : FT} (hft : FTOk P ft) {ex : EX} (hex : ExOk P ex) :
  CfOk P (callV ft ex):=by
 intro f args H H' r h m F w fv vs hI hf hv
 unfold callV at h
 split at h
 rotate_left
 ·obtain ⟨mb,hm,rfl⟩:=vr_yld hf
  obtain ⟨fn,tmps,asg,body,h1,h2⟩:=round_sound hex h hI hm hv
  exact .inr ⟨_,fn,tmps,asg,body,rfl,h1,h2⟩
 ·cases h
 rename_i k first caps
 obtain ⟨vf,vc,rfl,s1,s2,v1,v2⟩:=vr_fn hf
 refine .inl ⟨k,vf,vc,rfl,?_⟩
 have hall : VRs m F (first ++ args ++ caps) (vf ++ vs ++ vc):=by
  refine ⟨by simp [s1,s2,hv.len],fun i c hc => ?_⟩
  rcases Nat.lt_or_ge i (first.length + args.length) with h1 | h1
  ·rw [List.getElem?_append_left (by simpa using h1)] at hc
   have e1 : (vf ++ vs ++ vc).getD i undef = (vf ++ vs).getD i undef:=by
    simp only [Array.getD_eq_getD_getElem?]
    rw [Array.getElem?_append_left (by simp [s1,hv.len]; exact h1)]
   rw [e1]
   rcases Nat.lt_or_ge i first.length with h2 | h2
   ·rw [List.getElem?_append_left h2] at hc
    have e2 : (vf ++ vs).getD i undef = vf.getD i undef:=by
     simp only [Array.getD_eq_getD_getElem?]
     rw [Array.getElem?_append_left (by omega)]
    rw [e2]
    exact v1 i c hc
   ·rw [List.getElem?_append_right h2] at hc
    have e2 : (vf ++ vs).getD i undef = vs.getD (i - first.length) undef:=by
     simp only [Array.getD_eq_getD_getElem?]
     rw [Array.getElem?_append_right (by omega),s1]
    rw [e2]
    exact hv.val _ c hc
  ·rw [List.getElem?_append_right (by simpa using h1)] at hc
   have e1 : (vf ++ vs ++ vc).getD i undef = vc.getD (i - (first ++ args).length) undef:=by
    simp only [Array.getD_eq_getD_getElem?]
    rw [Array.getElem?_append_right (by simp [s1,hv.len]; exact h1)]
    simp [s1,hv.len]
   rw [e1]
   exact v2 _ c hc
 generalize first ++ args ++ caps = asx at h hall
 generalize vf ++ vs ++ vc = us at hall
 clear v1 v2 s1 s2 hf hv
 unfold callF at h
 cases hk : ft k with
 | none => rw [hk] at h; cases h
 | some d =>
  have hd:=hft k d hk
  rw [hk] at h
  cases d with
  | prim p =>
   simp only [Option.bind_eq_some_iff] at h
   obtain ⟨⟨r1,H1⟩,h1,h⟩:=h
   split at h
   ·cases h
    exact hd asx H _ _ h1 m F w us hI hall
   ·cases h
  | dprim p => cases h
  | eprim p => exact hd asx H _ _ h m F w us hI hall
  | pprim p =>
   simp only [Option.bind_eq_some_iff,Option.map_eq_some_iff,Prod.mk.injEq] at h
   obtain ⟨⟨as1,H1⟩,hz,r1,hr1,rfl,rfl⟩:=h
   obtain ⟨F1,o1,hv1⟩:=(frz_sound FZ).2 H H1 F asx as1 (fun i => us.getD i undef) hz hI hall.val
   obtain ⟨hl1,_⟩:=frzL_one hz
   have back : ∀ {en : Ending} {w' : World},CallPost P m F1 H1 w r1 H1 en w' → CallPost P m F H w r1 H1 en w':=fun ⟨u,m',F',h1,h2,h3,h4,h5⟩ => ⟨u,m',F',h1,h2,h3,o1.ext.trans h4,by rw [← o1.nx]; exact h5⟩
   rcases hd as1 r1 hr1 m F1 H1 w us o1.inv (by rw [hl1]; exact hall.len) hv1 with ⟨g1,g2⟩ | ⟨u,w',g1,g2⟩
   ·exact .inl ⟨g1,g2.mono fun en w' hp => back hp⟩
   ·exact .inr ⟨u,w',g1,back g2⟩
  | go pur n rs body =>
   obtain ⟨fn,c,g1,g2,g3,g4,g5,g6⟩:=hd
   have hcf : (callFunc k us).run P w = .ok (.enter k us) w:=by
    simp only [callFunc,Sem.run_bind,run_program,Result.andThen_ok,g1,g2,g3,Bool.false_eq_true,if_false,Option.isNone_some,Sem.run_pure]
   have henv : ∀ (m0 : Mp) (F0 : Fz) (as0 : List AV),as0.length = us.size → (∀ (i : Nat) (c : AV),as0[i]? = some c → VR m0 F0 c (us.getD i undef)) → EnvR m0 F0 (enterE n as0) (us ++ Array.replicate (fn.ntmps - us.size) undef):=by
    intro m0 F0 as0 hl hr
    subst g5
    refine ⟨by simp [enterE,hl],fun t => ?_⟩
    rcases Nat.lt_or_ge t as0.length with h1 | h1
    ·have e1 : (enterE fn.ntmps as0).getD t .bad = as0[t]:=by
      unfold enterE
      rw [List.getD_eq_getElem?_getD,List.getElem?_append_left h1,List.getElem?_eq_getElem h1]
      rfl
     have e2 : (us ++ Array.replicate (fn.ntmps - us.size) undef).getD t undef = us.getD t undef:=by
      simp only [Array.getD_eq_getD_getElem?]
      rw [Array.getElem?_append_left (by omega)]
     rw [e1,e2]
     exact hr t _ (List.getElem?_eq_getElem h1)
    ·have e1 : (enterE fn.ntmps as0).getD t .bad = .bad:=by
      unfold enterE
      rw [List.getD_eq_getElem?_getD,List.getElem?_append_right h1,List.getElem?_replicate]
      split <;> rfl
     rw [e1]
     exact .bad _
   refine .inl ⟨hcf,callsIn_Wd (ro:=none) (n:=0).1 (callsIn_of_wp_marks g1 g3 trivial ?_)⟩
   cases pur with
   | false =>
    simp only [Option.bind_eq_some_iff] at h
    obtain ⟨⟨x,e1,H1⟩,h1,h⟩:=h
    split at h
    rotate_left
    ·cases h
    rename_i hx
    simp only [Option.map_eq_some_iff,Prod.mk.injEq] at h
    obtain ⟨r1,hr1,rfl,rfl⟩:=h
    refine wpIn_mono (hex c body g4 _ e1 H H1 x h1 none (.inl rfl) w.heap.size m F w _ ⟨hI,henv m F asx hall.len.symm hall.val⟩ (Nat.le_refl _) (Marks.nil _ _ _)) fun X a' w' hp => ?_
    obtain ⟨hX,m',F',hs',hE,hd',hG⟩:=hp
    have hout:=leaves_marks (P:=P) (fn:=fn) (tmps:=a'.tmps) (R:=CallPost P m F H w r1 H1) (Nat.le_refl w.heap.size) (fun w2 hI2 hE2 => by
     obtain ⟨u,hu,hr⟩:=results_sound hI2 hs'.env g6 hr1
     exact ⟨u,hu,u,m',F',rfl,hr,hI2,hE2,hG⟩) a'.defers w' hs'.inv hE hd'
    cases x with
    | exit id => simp [leaves] at hx
    | normal => cases hX; exact hout
    | ret => cases hX; exact hout
   | true =>
    simp only [Option.bind_eq_some_iff] at h
    obtain ⟨⟨as1,H1⟩,hz,⟨x,e1,Hc⟩,h1,h⟩:=h
    split at h
    rotate_left
    ·cases h
    rename_i hx
    simp only [Option.bind_eq_some_iff,Option.map_eq_some_iff,Prod.mk.injEq] at h
    obtain ⟨r1,hr1,⟨r2,Hc2⟩,hz2,rfl,rfl⟩:=h
    obtain ⟨F1,o1,hv1⟩:=(frz_sound FZ).2 H H1 F asx as1 (fun i => us.getD i undef) hz hI hall.val
    obtain ⟨hl1,_⟩:=frzL_one hz
    have hI0 : Inv P (fun _ => none) F1 Heap.empty w:=⟨o1.inv.fz,fun _ _ h => (by cases h),fun _ _ _ h _ => (by cases h),fun _ _ _ _ h _ _ _ _ => (by cases h)⟩
    refine wpIn_mono (hex c body g4 _ e1 Heap.empty Hc x h1 none (.inl rfl) w.heap.size (fun _ => none) F1 w _ ⟨hI0,henv (fun _ => none) F1 as1 (by rw [hl1]; exact hall.len.symm) (fun i c hc => .fz (hv1 i c hc))⟩ (Nat.le_refl _) (Marks.nil _ _ _)) fun X a' w' hp => ?_
    obtain ⟨hX,m',F',hs',hE,hd',hG⟩:=hp
    have hout:=leaves_marks (P:=P) (fn:=fn) (tmps:=a'.tmps) (R:=CallPost P m F H w r2 H1) (Nat.le_refl w.heap.size) (fun w2 hI2 hE2 => by
     obtain ⟨u,hu,hr⟩:=results_sound hI2 hs'.env g6 hr1
     obtain ⟨F2,o2,hvf⟩:=(frz_sound FZ).1 Hc Hc2 F' r1 r2 u hz2 hI2 hr
     have hold : ∀ b,b < w.heap.size → w2.heap[b]? = w.heap[b]?:=fun b hb => hE2.blk b hb (fun _ _ h => by cases h)
     have hmn : ∀ id mb,m' id = some mb → w.heap.size ≤ mb.cb:=fun id mb h => by
      rcases hE2.mn id mb h with h | h | ⟨_,_,h,_⟩
      ·cases h
      ·exact h
      ·cases h
     have hF2 : ∀ b o v,F2 b o = some v → F1 b o = some v ∨ w.heap.size ≤ b:=fun b o v hv => by
      rcases o2.fr.new b o v hv with h | ⟨id,mb,h,rfl⟩
      ·rcases hE2.fn b o v h with h | h | ⟨_,_,h,_⟩
       ·exact .inl h
       ·exact .inr h
       ·cases h
      ·exact .inr (hmn id mb h)
     have hF12 : FLe F1 F2:=hE2.ff.trans o2.fr.le
     have hIm : Inv P m F2 H1 w2:=by
      refine o1.inv.next (MLe.refl m) hF12 o2.inv.fz (fun id mb h => ?_) (fun id mb B h hB => ?_) o1.inv.inj
      ·have:=o1.inv.lt id mb h
       have:=hE2.sz
       omega
      ·have hlt:=(o1.inv.lt id mb h).2
       refine .inl ⟨h,hB,hold _ hlt,fun o v hv => ?_⟩
       rcases hF2 _ o v hv with h | h
       ·exact h
       ·omega
     have hEm : Ext m F w m F2 w2:=⟨MLe.refl m,o1.fr.le.trans hF12,hE2.sz,hE2.tape,hE2.os,hE2.out,fun b hb _ => hold b hb,fun _ _ h => .inl h,fun b o v hv => by
      rcases hF2 b o v hv with h | h
      ·rcases o1.fr.new b o v h with h | h
       ·exact .inl h
       ·exact .inr (.inr h)
      ·exact .inr (.inl h)⟩
     exact ⟨u,hu,u,m,F2,rfl,.fz hvf,hIm,hEm,⟨fun _ _ h => .inl h,Nat.le_of_eq o1.nx.symm⟩⟩) a'.defers w' hs'.inv hE hd'
    cases x with
    | exit id => simp [leaves] at hx
    | normal => cases hX; exact hout
    | ret => cases hX; exact hout
theorem execs_next {ft : FT} : ∀ (n : Nat),(∀ (c : ACode) (e e' : Env) (H H' : Heap) (x : AExit),exec ft n c e H = some (x,e',H') → H.next ≤ H'.next) ∧ CfPure (callV ft (exec ft n)) (pureV ft):=by
 have rounds : ∀ (ex : EX),(∀ (c : ACode) (e e' : Env) (H H' : Heap) (x : AExit),ex c e H = some (x,e',H') → H.next ≤ H'.next) → ∀ (id : Nat) (args : List AV) (H H' : Heap) (r : AV),roundA ex id args H = some (r,H') → H.next ≤ H'.next:=by
  intro ex hex id args H H' r h
  unfold roundA at h
  split at h
  rotate_left
  ·cases h
  split at h
  rotate_left
  ·cases h
  simp only [Option.bind_eq_some_iff] at h
  obtain ⟨⟨x,e1,H1⟩,h1,h⟩:=h
  split at h
  rotate_left
  ·cases h
  simp only [Option.bind_eq_some_iff] at h
  obtain ⟨H1b,hb,⟨x,e2,H2⟩,h2,h⟩:=h
  have a1:=hex _ _ _ _ _ _ h1
  have a2:=hex _ _ _ _ _ _ h2
  have a3 : H1b.next = H1.next:=by
   unfold roundB at hb
   split at hb
   ·cases hb; simp
   ·cases hb
  have a4 : H'.next = H2.next:=by
   unfold roundE at h
   split at h
   ·split at h <;> (cases h; simp)
   ·cases h
  omega
 have calls : ∀ (ex : EX),(∀ (c : ACode) (e e' : Env) (H H' : Heap) (x : AExit),ex c e H = some (x,e',H') → H.next ≤ H'.next) → CfPure (callV ft ex) (pureV ft):=by
  intro ex hex
  refine ⟨fun f args H v H' w T hp h H2 hT => ?_,fun f args H v H' h => ?_,fun f args H v H' hp h => ?_⟩
  ·unfold pureV at hp
   unfold callV at h ⊢
   split at h
   rotate_left
   ·simp at hp
   ·cases h
   rename_i k first caps
   simp only at hp ⊢
   split at hp
   rotate_left
   ·cases hp
   rename_i hpu
   simp only [Option.map_eq_some_iff,Prod.mk.injEq] at hp
   obtain ⟨t,hs,rfl,rfl⟩:=hp
   have fin : ∀ {vs' : List AV} {K : Heap},frzCells H (first ++ args ++ caps) = some (vs',K) → ∃ K2,frzCells H2 (first ++ args ++ caps) = some (vs',K2) ∧ Loc t H K H2 K2 ∧ ((!t.isEmpty) = false → K = H ∧ K2 = H2):=fun hf => by
    obtain ⟨K2,a,b,c⟩:=sids_spec hs (T:=t) (fun _ h => h) hT hf
    exact ⟨K2,a,b,fun h => c (by simpa using h)⟩
   unfold isPure at hpu
   unfold callF at h ⊢
   split at hpu
   ·rename_i p n rs body hk
    simp only [hk] at h ⊢
    subst hpu
    simp only [Option.bind_eq_some_iff] at h
    obtain ⟨⟨vs',K⟩,hf,⟨x,e1,Hc⟩,h1,h⟩:=h
    split at h
    rotate_left
    ·cases h
    rename_i hx
    simp only [Option.bind_eq_some_iff,Option.map_eq_some_iff,Prod.mk.injEq] at h
    obtain ⟨r1,hr1,⟨r2,Hc2⟩,hz2,rfl,rfl⟩:=h
    obtain ⟨K2,g1,g2,g3⟩:=fin hf
    refine ⟨K2,?_,g2,g3⟩
    simp only [g1,h1,Option.bind_some,if_pos hx,hr1,hz2,Option.map_some]
   ·rename_i p hk
    simp only [hk] at h ⊢
    simp only [Option.bind_eq_some_iff,Option.map_eq_some_iff,Prod.mk.injEq] at h ⊢
    obtain ⟨⟨vs',K⟩,hf,r,hr,rfl,rfl⟩:=h
    obtain ⟨K2,g1,g2,g3⟩:=fin hf
    exact ⟨K2,⟨_,g1,r,hr,rfl,rfl⟩,g2,g3⟩
   ·cases hpu
  ·unfold callV at h
   split at h
   rotate_left
   ·exact rounds ex hex _ _ _ _ _ h
   ·cases h
   unfold callF at h
   split at h
   ·cases h
   ·simp only [Option.bind_eq_some_iff] at h
    obtain ⟨⟨r1,H1⟩,h1,h⟩:=h
    split at h
    ·cases h; assumption
    ·cases h
   ·simp only [Option.bind_eq_some_iff,Option.map_eq_some_iff,Prod.mk.injEq] at h
    obtain ⟨⟨as1,H1⟩,hz,r1,hr1,rfl,rfl⟩:=h
    exact Nat.le_of_eq ((frz_next FZ).2 _ _ _ _ hz).symm
   ·cases h
   ·simp only [Option.map_eq_some_iff,Prod.mk.injEq] at h
    obtain ⟨⟨r1,L⟩,h1,rfl,rfl⟩:=h
    rw [ext_next]
    omega
   ·simp only [Option.bind_eq_some_iff] at h
    obtain ⟨⟨as1,H1⟩,hz,⟨x,e1,Hc⟩,h1,h⟩:=h
    split at h
    rotate_left
    ·cases h
    simp only [Option.bind_eq_some_iff,Option.map_eq_some_iff,Prod.mk.injEq] at h
    obtain ⟨r1,hr1,⟨r2,Hc2⟩,hz2,rfl,rfl⟩:=h
    exact Nat.le_of_eq ((frz_next FZ).2 _ _ _ _ hz).symm
   ·simp only [Option.bind_eq_some_iff] at h
    obtain ⟨⟨x,e1,H1⟩,h1,h⟩:=h
    split at h
    rotate_left
    ·cases h
    simp only [Option.map_eq_some_iff,Prod.mk.injEq] at h
    obtain ⟨r1,hr1,rfl,rfl⟩:=h
    exact hex _ _ _ _ _ _ h1
  ·unfold pureV at hp
   split at hp
   ·rename_i he
    cases he
   ·rename_i k first caps he
    cases he
    split at hp
    rotate_left
    ·simp at hp
    rename_i hx
    unfold isExt at hx
    split at hx
    ·rename_i p hk
     simp only [callV,callF,hk,Option.map_eq_some_iff,Prod.mk.injEq] at h ⊢
     obtain ⟨⟨r1,L⟩,h1,rfl,rfl⟩:=h
     exact ⟨L,rfl,fun H2 hn => ⟨(r1,L),by rw [hn]; exact h1,rfl,rfl⟩⟩
    ·cases hx
   ·simp at hp
 have ops_ : ∀ {cf : CF} {pv : AV → List AV → FP},CfPure cf pv → ∀ (os : List AOper) (e e' : Env) (H H' : Heap),opers cf os e H = some (e',H') → H.next ≤ H'.next:=by
  intro cf pv hcp os
  induction os with
  | nil => intro e e' H H' h; simp only [opers] at h; cases h; exact Nat.le_refl _
  | cons o os ih =>
   intro e e' H H' h
   simp only [opers,Option.bind_eq_some_iff] at h
   obtain ⟨⟨e1,H1⟩,h1,h⟩:=h
   rw [oper_eq,Option.map_eq_some_iff] at h1
   obtain ⟨⟨v,K⟩,h1,h2⟩:=h1
   cases h2
   exact Nat.le_trans (opv_next hcp h1) (ih _ _ _ _ h)
 have runs_ : ∀ {cf : CF} {pv : AV → List AV → FP},CfPure cf pv → ∀ (os : List AOper) (nid : Nat) (e e' : Env) (H H' : Heap) (fs : List FQ),runs cf pv nid os e H = some (fs,e',H') → H.next ≤ H'.next:=by
  intro cf pv hcp os
  induction os with
  | nil => intro nid e e' H H' fs h; simp only [runs] at h; cases h; exact Nat.le_refl _
  | cons o os ih =>
   intro nid e e' H H' fs h
   simp only [runs,Option.bind_eq_some_iff,Option.map_eq_some_iff,Prod.mk.injEq] at h
   obtain ⟨⟨e1,H1⟩,h1,⟨gs,e2,H2⟩,h2,rfl,rfl,rfl⟩:=h
   rw [oper_eq,Option.map_eq_some_iff] at h1
   obtain ⟨⟨v,K⟩,h1,h3⟩:=h1
   cases h3
   exact Nat.le_trans (opv_next hcp h1) (ih _ _ _ _ _ _ h2)
 intro n
 induction n with
 | zero => exact ⟨fun c e e' H H' x h => by simp [exec] at h,calls _ (fun c e e' H H' x h => by simp [exec] at h)⟩
 | succ n ih =>
  obtain ⟨ih1,ih2⟩:=ih
  have main : ∀ (c : ACode) (e e' : Env) (H H' : Heap) (x : AExit),exec ft (n + 1) c e H = some (x,e',H') → H.next ≤ H'.next:=by
   intro c e e' H H' x h
   cases c with
   | skip => simp only [exec] at h; cases h; exact Nat.le_refl _
   | exit id => simp only [exec] at h; cases h; exact Nat.le_refl _
   | ret => simp only [exec] at h; cases h; exact Nat.le_refl _
   | region os draw prs =>
    simp only [exec] at h
    split at h
    ·simp only [Option.map_eq_some_iff,Prod.mk.injEq] at h
     obtain ⟨⟨e1,H1⟩,h1,rfl,rfl,rfl⟩:=h
     simp only [drawn,Option.bind_eq_some_iff] at h1
     obtain ⟨⟨fs,e2,H2⟩,hrun,h1⟩:=h1
     split at h1
     ·cases h1
      have:=runs_ ih2 _ _ _ _ _ _ _ hrun
      rw [Heap.next_pad] at this
      show H.next ≤ H2.next
      omega
     ·cases h1
    ·simp only [Option.map_eq_some_iff,Prod.mk.injEq] at h
     obtain ⟨⟨e1,H1⟩,h1,rfl,rfl,rfl⟩:=h
     exact ops_ ih2 _ _ _ _ _ h1
   | seq a b =>
    simp only [exec,Option.bind_eq_some_iff] at h
    obtain ⟨⟨y,e1,H1⟩,hy,h⟩:=h
    cases y with
    | normal => exact Nat.le_trans (ih1 _ _ _ _ _ _ hy) (ih1 _ _ _ _ _ _ h)
    | exit id => cases h; exact ih1 _ _ _ _ _ _ hy
    | ret => cases h; exact ih1 _ _ _ _ _ _ hy
   | cond c a b =>
    simp only [exec,Option.bind_eq_some_iff] at h
    obtain ⟨t,ht,h⟩:=h
    split at h
    ·exact ih1 _ _ _ _ _ _ h
    ·exact ih1 _ _ _ _ _ _ h
   | block id c =>
    simp only [exec,Option.map_eq_some_iff,Prod.mk.injEq] at h
    obtain ⟨⟨y,e1,H1⟩,hy,rfl,rfl,rfl⟩:=h
    exact ih1 _ _ _ _ _ _ hy
   | loop c =>
    simp only [exec,Option.bind_eq_some_iff] at h
    obtain ⟨⟨y,e1,H1⟩,hy,h⟩:=h
    cases y with
    | normal => exact Nat.le_trans (ih1 _ _ _ _ _ _ hy) (ih1 _ _ _ _ _ _ h)
    | exit id => cases h; exact ih1 _ _ _ _ _ _ hy
    | ret => cases h; exact ih1 _ _ _ _ _ _ hy
   | stop => simp [exec] at h
   | rangeF f ps asg body =>
    simp only [exec] at h
    split at h
    rotate_left
    ·cases h
    simp only [Option.bind_eq_some_iff] at h
    obtain ⟨⟨v,H1⟩,h1,h⟩:=h
    have a1:=ih2.2 _ _ _ _ _ h1
    have a2 : H'.next = H1.next:=by
     unfold rangeE at h
     split at h
     ·cases h; simp
     ·cases h; simp
     ·cases h
    rw [Heap.next_push] at a1
    omega
  exact ⟨main,calls _ main⟩
theorem range_sound {ft : FT} (hft : FTOk P ft) {cf : CF} (hcf : CfOk P cf) {f : Operand} {ps : Array Tmp} {asg body : Code} {aa ab : ACode} (ha : compC P asg = some aa) (hb : compC P body = some ab) (hnr : noR asg = true ∧ noR body = true)
  {b0 : Nat} {m : Mp} {F : Fz} {H H' H1 : Heap} {w : World} {e e' : Env} {a : Act} {x : AExit} {v : AV} (hs : Sit P m F H w e a) (hb0 : b0 ≤ w.heap.size) (hd : Marks b0 m w a.defers) (hgo : isGo ft (ev e f) = true)
  (h1 : cf (ev e f) [.yld H.next] (H.push (.loop .ready e ps.toList aa ab none)) = some (v,H1)) (h : rangeE H.next e H1 = some (x,e',H')) : (Code.rangeFunc f ps asg body).wpIn (Wd none) 0 P (CodePost P b0 m F H w x e' H') a w:=by
 refine wpIn_rangeFunc fun fn _ => ?_
 obtain ⟨hI1,hE1⟩:=hs.inv.allocUn (.deferred (some []))
 have hfree : Free m H H.next:=hs.inv.free
 obtain ⟨rc,hrc⟩ : ∃ rc : Loop,rc = { state:=.ready,pending:=none,fn,tmps:=a.tmps,params:=ps,assign:=asg,body,defers:=w.heap.size }:=⟨_,rfl⟩
 have hsz1 : (w.alloc (.deferred (some []))).heap.size = w.heap.size + 1:=World.size_alloc _ _
 obtain ⟨hI2,hE2⟩:=hI1.push (nid:=H.next) hfree rfl rfl rfl rfl (.loop rc) (.loop .ready e ps.toList aa ab none) 0 0 0
  ⟨rc,heap_alloc_at,by rw [hrc]; rfl,by rw [hrc]; exact hs.env.mono (mset_le _ hfree.no) (FLe.refl F),by rw [hrc],by rw [hrc]; exact ha,by rw [hrc]; exact hb,by rw [hrc]; exact hnr.1,by rw [hrc]; exact hnr.2,by rw [hrc]; rfl⟩
 rw [Heap.put_next] at hI2
 rw [hsz1] at hI2 hE2
 have hm2 : mset m H.next ⟨w.heap.size + 1,0,0,0⟩ H.next = some ⟨w.heap.size + 1,0,0,0⟩:=mset_self _ _ _
 generalize hmm : mset m H.next ⟨w.heap.size + 1,0,0,0⟩ = m2 at hI2 hE2 hm2
 have hE12:=hE1.trans hE2
 obtain ⟨w2,hw2⟩ : ∃ w2,(w.alloc (.deferred (some []))).alloc (.loop rc) = w2:=⟨_,rfl⟩
 have hent:=run_enterLoop_outer (P:=P) (w:=w) fn a.tmps ps asg body
 rw [← hrc,hw2] at hent
 rw [hw2] at hI2 hE2 hE12
 have hsz2 : w2.heap.size = w.heap.size + 2:=by rw [← hw2,World.size_alloc,hsz1]
 have hD2 : w2.heap[w.heap.size]? = some (.deferred (some [])):=by
  rw [← hw2,heap_alloc_ne (by omega),heap_alloc_at]
 have hun2 : ∀ id mb,m2 id = some mb → mb.cb ≠ w.heap.size:=fun id mb hid => by
  rw [← hmm] at hid
  rcases mset_cases hid with ⟨_,rfl⟩ | ⟨_,hid⟩
  ·simp
  ·have:=(hs.inv.lt _ _ hid).2; omega
 have hG2 : Grew H.next m m2 (H.push (.loop .ready e ps.toList aa ab none)):=⟨fun id mb hid => by
  rw [← hmm] at hid
  rcases mset_cases hid with ⟨rfl,_⟩ | ⟨_,hid⟩
  ·exact .inr (Nat.le_refl _)
  ·exact .inl hid,by simp⟩
 have hfv : VR m2 F (ev e f) (a.eval f):=(hs.ev f).mono hE12.mm hE12.ff
 rcases hcf _ _ _ _ _ h1 m2 F w2 _ #[.func (.yield (w.heap.size + 1)) #[] #[]] hI2 hfv ⟨rfl,fun i c hi => by
  cases i with
  | zero => simp at hi; subst hi; exact .yld hm2
  | succ i => simp at hi⟩ with ⟨k,first,caps,hfe,hcase⟩ | ⟨l,_,_,_,_,hfe,_⟩
 rotate_left
 ·exfalso
  rw [hfe] at hfv
  unfold isGo at hgo
  split at hgo
  ·rename_i hq
   rw [hq] at hfv
   obtain ⟨_,_,e0,_⟩:=vr_fn hfv
   cases e0
  ·cases hgo
 have hcalls : (callFunc k (first ++ #[.func (.yield (w.heap.size + 1)) #[] #[]] ++ caps)).run P w2 = .ok (.enter k (first ++ #[.func (.yield (w.heap.size + 1)) #[] #[]] ++ caps)) w2 ∧
   Calls P k (first ++ #[.func (.yield (w.heap.size + 1)) #[] #[]] ++ caps) w2 (CallPost P m2 F (H.push (.loop .ready e ps.toList aa ab none)) w2 v H1):=by
  rcases hcase with hcase | ⟨u,w',g1,_⟩
  ·exact hcase
  ·exfalso
   unfold isGo at hgo
   split at hgo
   ·rename_i k' ff cc hq
    rw [hq,hfe] at hfv
    obtain ⟨_,_,e0,_⟩:=vr_fn hfv
    cases e0
    split at hgo
    ·rename_i p nn rs bd hk
     obtain ⟨fn',c',q1,q2,q3,_⟩:=hft k _ hk
     simp only [callFunc,Sem.run_bind,run_program,Result.andThen_ok,q1,q2,q3,Bool.false_eq_true,if_false,Option.isNone_some,Sem.run_pure] at g1
     cases g1
    ·cases hgo
   ·cases hgo
 have hpost : ∀ en w3,CallPost P m2 F (H.push (.loop .ready e ps.toList aa ab none)) w2 v H1 en w3 → rangePost (Wd none) 0 P (w.heap.size + 1) (CodePost P b0 m F H w x e' H') { a with defers:=[{ target:=.collected w.heap.size,args:=#[] }] ++ a.defers } en w3:=by
  intro en w3 hp
  obtain ⟨u,m3,F3,rfl,hvr,hI3,hE3,hG3⟩:=hp
  have hm3:=hE3.mm _ _ hm2
  have hD3 : w3.heap[w.heap.size]? = some (.deferred (some [])):=(hE3.blk _ (by omega) hun2).trans hD2
  have hun3 : ∀ id mb,m3 id = some mb → mb.cb ≠ w.heap.size:=fun id mb hid e0 => by
   rcases hE3.mn id mb hid with h | h | ⟨i0,m0,h,h'⟩
   ·exact hun2 _ _ h e0
   ·omega
   ·exact hun2 _ _ h (h'.trans e0)
  have hEa:=hE12.trans hE3
  have hmk:=hd.ext hEa
  have fin : ∀ (st : LSt) (e4 : List AV) (ps4 : List Nat) (asg4 body4 : ACode) (pend : Option AExit),H1.get H.next = some (.loop st e4 ps4 asg4 body4 pend) → st ≠ .busy → ∃ (jump : Option Code) (w4 : World) (ms : Marks b0 m3 w4 ({ target:=.collected w.heap.size,args:=#[] } :: a.defers)),
    pendR pend jump ∧ (Instr.endLoop (w.heap.size + 1)).run P w3 = .ok jump w4 ∧ Sit P m3 F3 (H1.set H.next .dead) w4 e { a with defers:={ target:=.collected w.heap.size,args:=#[] } :: a.defers } ∧ Ext m F w m3 F3 w4 ∧ Grew H.next m m3 (H1.set H.next .dead):=by
   intro st e4 ps4 asg4 body4 pend hg hst
   obtain ⟨r4,p1,p2,_,_,_,_,_,_,p9⟩:=hI3.blk _ _ _ hm3 hg
   obtain ⟨hI4,hE4⟩:=hI3.putLoop hm3 (live_of hg (by simp)) (r':={ r4 with state:=.exhausted }) p1 (B':=.dead) trivial
   have hEb:=hEa.trans hE4
   have hmk4:=hd.ext hEb
   refine ⟨r4.pending,_,⟨fun d hdd => ?_,List.pairwise_cons.2 ⟨fun d' hd' D D' q1 q2 => ?_,hmk4.two⟩⟩,p9,run_endLoop p1 (fun e0 => ?_),⟨hI4,hs.env.mono hEa.mm hEa.ff⟩,hEb,grew_set (hG2.trans hG3)⟩
   ·rcases List.mem_cons.1 hdd with rfl | hdd
    ·exact ⟨w.heap.size,rfl,(put_ne (by simp)).trans hD3,hb0,hun3⟩
    ·exact hmk4.all d hdd
   ·obtain ⟨D2,rfl,h2,_⟩:=hd.all d' hd'
    cases q1
    cases q2
    have:=(Array.getElem?_eq_some_iff.1 h2).1
    omega
   ·cases st with
    | busy => exact hst rfl
    | ready => rw [e0] at p2; cases p2
    | done => rw [e0] at p2; cases p2
  unfold rangeE at h
  split at h
  ·rename_i hg
   cases h
   obtain ⟨jump,w4,ms,hpend,hrun,hsit,hex4,hgr⟩:=fin _ _ _ _ _ _ hg (by simp)
   have : jump = none:=hpend
   subst this
   exact ⟨none,w4,hrun,rfl,m3,F3,hsit,hex4,ms,hgr⟩
  ·rename_i x' hg
   cases h
   obtain ⟨jump,w4,ms,hpend,hrun,hsit,hex4,hgr⟩:=fin _ _ _ _ _ _ hg (by simp)
   cases x with
   | normal => exact hpend.elim
   | ret =>
    have : jump = some .ret:=hpend
    subst this
    exact ⟨_,w4,hrun,wpIn_ret ⟨rfl,m3,F3,hsit,hex4,ms,hgr⟩⟩
   | exit q =>
    have : jump = some (.exit q):=hpend
    subst this
    exact ⟨_,w4,hrun,wpIn_exit ⟨rfl,m3,F3,hsit,hex4,ms,hgr⟩⟩
  ·cases h
 have hres : (resolve a.eval (rangeCall f (w.heap.size + 1)) 0).run P w2 = .ok { target:=.fn (.func k) caps,args:=first ++ #[.func (.yield (w.heap.size + 1)) #[] #[]] } w2:=by
  have hev : ∀ v,a.eval (.const v) = v:=fun _ => rfl
  simp [resolve,hfe,Deferred.ofValue,hev]
 have hinv : (invoke (.fn (.func k) caps) (first ++ #[.func (.yield (w.heap.size + 1)) #[] #[]])).run P w2 = .ok (.enter k (first ++ #[.func (.yield (w.heap.size + 1)) #[] #[]] ++ caps)) w2:=hcalls.1
 have hcal : CallsIn (Wd none) (0 - 1) P k (first ++ #[.func (.yield (w.heap.size + 1)) #[] #[]] ++ caps) w2 (rangePost (Wd none) 0 P (w.heap.size + 1) (CodePost P b0 m F H w x e' H') { a with defers:=[{ target:=.collected w.heap.size,args:=#[] }] ++ a.defers }) :=
  callsIn_Wd.2 (hcalls.2.mono hpost)
 exact ⟨w.heap.size + 1,[{ target:=.collected w.heap.size,args:=#[] }],w2,_,w2,k,_,w2,hent,hres,fun _ _ => trivial,hinv,fun h => by simp [Wd,Fence.wide] at h,hcal⟩
theorem exec_sound (hP : P.follows .mixedOrders = true) {ft : FT} (hft : FTOk P ft) : ∀ (n : Nat) (c : Code) (ac : ACode),compC P c = some ac → ∀ (e e' : Env) (H H' : Heap) (x : AExit),exec ft n ac e H = some (x,e',H') →
  ∀ (ro : Option Nat),(ro = none ∨ noR c = true) → ∀ (b0 : Nat) (m : Mp) (F : Fz) (w : World) (a : Act),Sit P m F H w e a → b0 ≤ w.heap.size → Marks b0 m w a.defers → c.wpIn (Wd ro) 0 P (CodePost P b0 m F H w x e' H') a w ∧ ∀ c0,c = .loop c0 → RW P ro c0 (CodePost P b0 m F H w x e' H') a w:=by
 intro n
 induction n with
 | zero => intro c ac _ e e' H H' x h; simp [exec] at h
 | succ n ih =>
  intro c ac hc e e' H H' x h ro hro b0 m F w a hs hb0 hd
  have hcf : CfOk P (callV ft (exec ft n)):=calls_of hft (fun c ac hc e e' H H' x h ro hro b0 m F w a hs hb0 hd => (ih c ac hc e e' H H' x h ro hro b0 m F w a hs hb0 hd).1)
  have post : ∀ {m' : Mp} {F' : Fz} {H1 : Heap} {w' : World},Ext m F w m' F' w' → Grew H.next m m' H1 → ∀ X a'' w'',CodePost P b0 m' F' H1 w' x e' H' X a'' w'' → CodePost P b0 m F H w x e' H' X a'' w'':=fun hE hG X a'' w'' ⟨h1,m2,F2,h2,h3,h4,h5⟩ => ⟨h1,m2,F2,h2,hE.trans h3,h4,hG.trans h5⟩
  cases c with
  | skip =>
   simp only [compC,Option.some.injEq] at hc; subst hc
   simp only [exec,Option.some.injEq,Prod.mk.injEq] at h
   obtain ⟨rfl,rfl,rfl⟩:=h
   exact ⟨wpIn_skip ⟨rfl,m,F,hs,Ext.refl m F w,hd,Grew.refl m H⟩,by simp⟩
  | exit id =>
   simp only [compC,Option.some.injEq] at hc; subst hc
   simp only [exec,Option.some.injEq,Prod.mk.injEq] at h
   obtain ⟨rfl,rfl,rfl⟩:=h
   exact ⟨wpIn_exit ⟨rfl,m,F,hs,Ext.refl m F w,hd,Grew.refl m H⟩,by simp⟩
  | ret =>
   simp only [compC,Option.some.injEq] at hc; subst hc
   simp only [exec,Option.some.injEq,Prod.mk.injEq] at h
   obtain ⟨rfl,rfl,rfl⟩:=h
   exact ⟨wpIn_ret ⟨rfl,m,F,hs,Ext.refl m F w,hd,Grew.refl m H⟩,by simp⟩
  | region id ops draw =>
   simp only [compC,Option.bind_eq_some_iff] at hc
   obtain ⟨os,hos,hc⟩:=hc
   refine ⟨?_,by simp⟩
   cases draw with
   | false =>
    simp only [Bool.false_eq_true,if_false,Option.some.injEq] at hc
    subst hc
    simp only [exec,Bool.false_eq_true,if_false,Option.map_eq_some_iff,Prod.mk.injEq] at h
    obtain ⟨⟨e1,H1⟩,h1,rfl,rfl,rfl⟩:=h
    exact region_sound hcf hos hs hd h1 id
   | true =>
    simp only [if_true,Option.map_eq_some_iff] at hc
    obtain ⟨prs,hprs,rfl⟩:=hc
    simp only [exec,if_true,Option.map_eq_some_iff,Prod.mk.injEq] at h
    obtain ⟨⟨e1,H1⟩,h1,rfl,rfl,rfl⟩:=h
    exact drawn_sound hP hcf (execs_next n).2 hos hprs hs (ds:=a.defers) rfl h1 id (fun a' w' m' F' hs' hE hd' hG => ⟨rfl,m',F',hs',hE,by rw [hd']; exact hd.ext hE,hG⟩)
  | seq c1 c2 =>
   simp only [compC,Option.bind_eq_some_iff,Option.map_eq_some_iff] at hc
   obtain ⟨a1,h1,a2,h2,rfl⟩:=hc
   refine ⟨?_,by simp⟩
   simp only [exec,Option.bind_eq_some_iff] at h
   obtain ⟨⟨y,e1,H1⟩,hy,h⟩:=h
   refine wpIn_seq (wpIn_mono (ih c1 a1 h1 e e1 H H1 y hy ro (hro.imp_right fun h => by simp only [noR,Bool.and_eq_true] at h; exact h.1) b0 m F w a hs hb0 hd).1 fun X a' w' hp => ?_)
   obtain ⟨hX,m',F',hs',hE,hd',hG⟩:=hp
   cases y with
   | normal =>
    cases hX
    exact wpIn_mono (ih c2 a2 h2 e1 e' H1 H' x h ro (hro.imp_right fun h => by simp only [noR,Bool.and_eq_true] at h; exact h.2) b0 m' F' w' a' hs' (Nat.le_trans hb0 hE.sz) hd').1 (post hE hG)
   | exit id =>
    cases hX
    simp only [Option.some.injEq,Prod.mk.injEq] at h
    obtain ⟨rfl,rfl,rfl⟩:=h
    exact ⟨rfl,m',F',hs',hE,hd',hG⟩
   | ret =>
    cases hX
    simp only [Option.some.injEq,Prod.mk.injEq] at h
    obtain ⟨rfl,rfl,rfl⟩:=h
    exact ⟨rfl,m',F',hs',hE,hd',hG⟩
  | cond o c1 c2 =>
   simp only [compC,Option.bind_eq_some_iff,Option.map_eq_some_iff] at hc
   obtain ⟨a1,h1,a2,h2,rfl⟩:=hc
   refine ⟨?_,by simp⟩
   simp only [exec,Option.bind_eq_some_iff] at h
   obtain ⟨t,ht,h⟩:=h
   have hv:=toB_some ht (hs.ev o)
   cases t with
   | true => exact wpIn_cond_true hv (ih c1 a1 h1 e e' H H' x h ro (hro.imp_right fun h => by simp only [noR,Bool.and_eq_true] at h; exact h.1) b0 m F w a hs hb0 hd).1
   | false => exact wpIn_cond_false hv (ih c2 a2 h2 e e' H H' x h ro (hro.imp_right fun h => by simp only [noR,Bool.and_eq_true] at h; exact h.2) b0 m F w a hs hb0 hd).1
  | block id c1 =>
   simp only [compC,Option.map_eq_some_iff] at hc
   obtain ⟨a1,h1,rfl⟩:=hc
   refine ⟨?_,by simp⟩
   simp only [exec,Option.map_eq_some_iff,Prod.mk.injEq] at h
   obtain ⟨⟨y,e1,H1⟩,hy,rfl,rfl,rfl⟩:=h
   refine wpIn_block (wpIn_mono (ih c1 a1 h1 e e1 H H1 y hy ro (hro.imp_right fun h => by simpa only [noR] using h) b0 m F w a hs hb0 hd).1 fun X a' w' hp => ?_)
   obtain ⟨hX,m',F',hs',hE,hd',hG⟩:=hp
   cases y with
   | normal => cases hX; exact ⟨rfl,m',F',hs',hE,hd',hG⟩
   | ret => cases hX; exact ⟨rfl,m',F',hs',hE,hd',hG⟩
   | exit id' =>
    cases hX
    show if id' = id then _ else _
    by_cases hid : id' = id
    ·subst hid
     rw [if_pos rfl]
     exact ⟨by rw [if_pos rfl]; rfl,m',F',hs',hE,hd',hG⟩
    ·rw [if_neg hid]
     exact ⟨by rw [if_neg (by simpa using hid)]; rfl,m',F',hs',hE,hd',hG⟩
  | loop c1 =>
   simp only [compC,Option.map_eq_some_iff] at hc
   obtain ⟨a1,h1,rfl⟩:=hc
   simp only [exec,Option.bind_eq_some_iff] at h
   obtain ⟨⟨y,e1,H1⟩,hy,h⟩:=h
   have key : RW P ro c1 (CodePost P b0 m F H w x e' H') a w:=by
    refine RW_step (wpIn_mono (ih c1 a1 h1 e e1 H H1 y hy ro (hro.imp_right fun h => by simpa only [noR] using h) b0 m F w a hs hb0 hd).1 fun X a' w' hp => ?_)
    obtain ⟨hX,m',F',hs',hE,hd',hG⟩:=hp
    cases y with
    | normal =>
     cases hX
     intro b k cs hb
     obtain ⟨X,a'',w'',hq,harr⟩:=(ih (.loop c1) (.loop a1) (by simp [compC,h1]) e1 e' H1 H' x h ro hro b0 m' F' w' a' hs' (Nat.le_trans hb0 hE.sz) hd').2 c1 rfl b k cs hb
     exact ⟨X,a'',w'',post hE hG X a'' w'' hq,harr⟩
    | exit id =>
     cases hX
     simp only [Option.some.injEq,Prod.mk.injEq] at h
     obtain ⟨rfl,rfl,rfl⟩:=h
     exact ⟨rfl,m',F',hs',hE,hd',hG⟩
    | ret =>
     cases hX
     simp only [Option.some.injEq,Prod.mk.injEq] at h
     obtain ⟨rfl,rfl,rfl⟩:=h
     exact ⟨rfl,m',F',hs',hE,hd',hG⟩
   refine ⟨wp_of_RW key,fun c0 hc0 => ?_⟩
   cases hc0
   exact key
  | rangeFunc f ps asg body =>
   have hro : ro = none:=hro.resolve_right (by simp [noR])
   subst hro
   refine ⟨?_,by simp⟩
   simp only [compC] at hc
   split at hc
   rotate_left
   ·cases hc
    simp [exec] at h
   rename_i hnr
   simp only [Bool.and_eq_true] at hnr
   simp only [Option.bind_eq_some_iff,Option.map_eq_some_iff] at hc
   obtain ⟨aa,ha,ab,hb,rfl⟩:=hc
   simp only [exec] at h
   split at h
   rotate_left
   ·cases h
   rename_i hgo
   simp only [Option.bind_eq_some_iff] at h
   obtain ⟨⟨v,H1⟩,h1,h⟩:=h
   exact range_sound hft hcf ha hb hnr hs hb0 hd hgo h1 h
  | _ =>
   simp only [compC,Option.some.injEq] at hc
   subst hc
   simp [exec] at h
theorem callF_sound (hP : P.follows .mixedOrders = true) {ft : FT} (hft : FTOk P ft) (n : Nat) {k : FuncId} {args : List AV} {H H' : Heap} {r : AV} (h : callF ft (exec ft n) k args H = some (r,H')) {m : Mp} {F : Fz} {w : World} {vs : Array Value} (hI : Inv P m F H w) (hv : VRs m F args vs)
  (hgo : ∃ p n rs body,ft k = some (.go p n rs body)) : Calls P k vs w (CallPost P m F H w r H'):=by
 have hcf : CfOk P (callV ft (exec ft n)):=calls_of hft (fun c ac hc e e' H H' x h ro hro b0 m F w a hs hb0 hd => (exec_sound hP hft n c ac hc e e' H H' x h ro hro b0 m F w a hs hb0 hd).1)
 have hh : callV ft (exec ft n) (.fn (.func k) [] []) args H = some (r,H'):=by simpa [callV] using h
 rcases hcf _ _ H H' r hh m F w (.func (.func k) #[] #[]) vs hI (.fz (.fn rfl rfl (by simp) (by simp))) hv with ⟨k',f',c',he,hcase⟩ | ⟨_,_,_,_,_,he,_⟩
 rotate_left
 ·cases he
 cases he
 simp only [Array.empty_append,Array.append_empty] at hcase
 rcases hcase with ⟨_,h2⟩ | ⟨u,w',h1,_⟩
 ·exact h2
 ·obtain ⟨p,n,rs,body,hk⟩:=hgo
  obtain ⟨fn,c,g1,g2,g3,_⟩:=hft k _ hk
  simp only [callFunc,Sem.run_bind,run_program,Result.andThen_ok,g1,g2,g3,Bool.false_eq_true,if_false,Option.isNone_some,Sem.run_pure] at h1
  cases h1
end
end Go.VI
