/- Part 3: EvSg EvNx. -/
import Derived.Test.YtkmohjddojpdjaaBnB
-- part EvSg
/- EvSg: places, and slices that grow beside them. -/
set_option linter.unusedVariables false
set_option linter.unusedSimpArgs false
namespace Go.Ev
open Go.RowKit
/-- A slice of nothing, with no room, in a place that may be written. -/
def Emp0 (H : Heap) (y : AV) : Prop := match y with
  | .sl l v o n c m => n = 0 ∧ c = 0 ∧ m = false ∧ l < H.sz ∧ ∃ e g cs,H.get l = .cells v e (0,0) g cs ∧ o ≤ cs.length
  | _ => False
/-- A slice that is full, in a place that may be written. -/
def Full0 (H : Heap) (e sz : Nat) (x : AV) (els : List (List AV)) : Prop := match x with
  | .sl l v o n c m => o = 0 ∧ n = els.length ∧ c = n ∧ m = false ∧ l < H.sz ∧ (∀ r ∈ els,r.length = sz) ∧ ∃ g,H.get l = .cells v e (0,0) g els.flatten
  | _ => False
/-- A slice that grows; at first it may be empty, or full. -/
def GG (H : Heap) (e sz : Nat) (y : AV) (els : List (List AV)) : Prop := (els = [] ∧ Emp0 H y) ∨ Full0 H e sz y els ∨ Grow H e sz y els
section
variable {ρ : Addr → Option Value} {H H' : Heap} {e sz : Nat} {x y : AV} {els ys : List (List AV)}
theorem Emp0.emp (h : Emp0 H x) : Emp H x := by
  cases x with
  | sl l v o n c m =>
    obtain ⟨rfl,rfl,rfl,hl,e',g,cs,hg,ho⟩ := h
    exact ⟨rfl,rfl,rfl,hl,e',_,g,cs,hg,ho⟩
  | _ => exact h.elim
theorem Emp0.frame (h : Emp0 H x) (S : Nat → Prop) (f : Fr S H H') (hs : ∀ l,x.lies l → ¬ S l) : Emp0 H' x := by
  cases x with
  | sl l v o n c m =>
    obtain ⟨h1,h2,h3,hl,e,g,cs,hg,ho⟩ := h
    exact ⟨h1,h2,h3,Nat.lt_of_lt_of_le hl f.sz,e,g,cs,by rw [f.get l hl (hs l rfl),hg],ho⟩
  | _ => exact h.elim
theorem Full0.full (h : Full0 H e sz x els) : Full H e sz x els := by
  cases x with
  | sl l v o n c m =>
    obtain ⟨h1,h2,h3,h4,h5,h6,g,hg⟩ := h
    exact ⟨h1,h2,h3,h4,h5,h6,_,g,hg⟩
  | _ => exact h.elim
theorem Full0.frame (h : Full0 H e sz x els) (S : Nat → Prop) (f : Fr S H H') (hs : ∀ l,x.lies l → ¬ S l) : Full0 H' e sz x els := by
  cases x with
  | sl l v o n c m =>
    obtain ⟨h1,h2,h3,h4,hl,h5,g,hg⟩ := h
    exact ⟨h1,h2,h3,h4,Nat.lt_of_lt_of_le hl f.sz,h5,g,by rw [f.get l hl (hs l rfl),hg]⟩
  | _ => exact h.elim
theorem GG.nils (H : Heap) (e sz : Nat) : GG H e sz .nils [] := Or.inr (Or.inr (Grow.nils H e sz))
theorem GG.of_new {l v : Nat} {e' : Nat} {g : Bool} (hl : l < H.sz) (hg : H.get l = .cells v e' (0,0) g []) : GG H e sz (.sl l v 0 0 0 false) [] := Or.inl ⟨rfl,rfl,rfl,rfl,hl,e',g,_,hg,Nat.le_refl _⟩
theorem GG.of_full {l n : Nat} (hl : l < H.sz) (hn : els.length = n) (hs : ∀ r ∈ els,r.length = sz) (hg : H.get l = .cells 0 e (0,0) false els.flatten) : GG H e sz (.sl l 0 0 n n false) els := Or.inr (Or.inl ⟨rfl,hn.symm,rfl,rfl,hl,hs,_,hg⟩)
theorem GG.toEls (h : GG H e sz x els) : Els ρ H sz x els := by
  rcases h with ⟨rfl,h⟩ | h | h
  · exact h.emp.toEls
  · exact h.full.toEls
  · exact h.toEls
theorem GG.notSx (h : GG H e sz x els) (n : Nat) : x ≠ .sx n := by
  rcases h with ⟨_,h⟩ | h | h
  · rintro rfl; exact h
  · rintro rfl; exact h
  · exact h.notSx n
theorem GG.frame (h : GG H e sz x els) (S : Nat → Prop) (f : Fr S H H') (hs : ∀ l,x.lies l → ¬ S l) : GG H' e sz x els := by
  rcases h with h | h | h
  · exact Or.inl ⟨h.1,h.2.frame S f hs⟩
  · exact Or.inr (Or.inl (h.frame S f hs))
  · exact Or.inr (Or.inr (h.frame S f hs))
theorem GG.lt (h : GG H e sz x els) (l : Nat) (hl : x.lies l) : l < H.sz := (h.toEls (ρ := fun _ => none)).lies_lt l hl
theorem GG.scal (h : GG H e sz x els) : scal x = true := by
  rcases h with ⟨_,h⟩ | h | h
  · cases x <;> first | exact h.elim | rfl
  · cases x <;> first | exact h.elim | rfl
  · cases x <;> first | exact h.elim | rfl
theorem layA_nil (c : List AV) (o : Nat) : layA c o [] = c := by simp [layA]
/-- An append to what grows, be it of nothing. -/
theorem GG.append {by_ : Nat} (h : GG H e sz x els) (hy : Els ρ H sz y ys) (hs : ∀ r ∈ ys,r.all AV.solid = true) (hb : (els.length + ys.length) * by_ ≤ 70368744177664) (hb2 : els.length + ys.length ≤ 70368744177664) :
    ∃ x' f,apA ρ 0 H e sz by_ x y = some (x',f) ∧ GG (f.on H) e sz x' (els ++ ys) ∧ Fr x.lies H (f.on H) ∧ (∀ l,x'.lies l → x.lies l ∨ H.sz ≤ l) := by
  rcases h with ⟨rfl,h⟩ | h | h
  · by_cases hne : ys = []
    · subst hne
      have hf : frst ρ H sz 0 y = some [] := hy.frst
      have hla : lenA y = some 0 := hy.lenA
      simp only [apA,hla,Option.bind_some,hf,List.flatten_nil,List.all_nil,List.length_nil,Nat.zero_mul,beq_self_eq_true,Bool.and_self,Bool.not_true,cond_false]
      cases x with
      | sl l v o n c m =>
        obtain ⟨rfl,rfl,rfl,hl,e',g,cs,hg,ho⟩ := h
        have c0 : decide (0 + 0 ≤ 0) = true := by decide
        simp only [apSl,c0,cond_true,Nat.zero_mul,Nat.add_zero]
        rw [storeN_of (vs := []) o hg (by simpa using ho) rfl,layA_nil]
        refine ⟨_,_,rfl,Or.inl ⟨rfl,rfl,rfl,rfl,hl,e',g,cs,?_,ho⟩,Fr.put H l _ (fun _ => rfl),fun l q => Or.inl q⟩
        simp [Eff.on,Heap.get_put]
      | _ => exact h.elim
    · rw [List.length_nil,Nat.zero_add] at hb hb2
      obtain ⟨x',f,h1,h2,h3,h4⟩ := h.emp.append (ρ := ρ) hy hne hs hb hb2
      exact ⟨x',f,h1,Or.inr (Or.inr h2),h3.mono fun t _ q => q.elim,fun l q => Or.inr (h4 l q)⟩
  · by_cases hne : ys = []
    · subst hne
      have hf : frst ρ H sz 0 y = some [] := hy.frst
      have hla : lenA y = some 0 := hy.lenA
      simp only [apA,hla,Option.bind_some,hf,List.flatten_nil,List.all_nil,List.length_nil,Nat.zero_mul,beq_self_eq_true,Bool.and_self,Bool.not_true,cond_false]
      cases x with
      | sl l v o n c m =>
        obtain ⟨rfl,rfl,rfl,rfl,hl,h5,g,hg⟩ := h
        have hel := els_length els sz h5
        simp only [apSl,Nat.add_zero,Nat.le_refl,decide_true,cond_true]
        rw [storeN_of (vs := []) _ hg (by simp [hel]) rfl,layA_nil]
        refine ⟨_,_,rfl,Or.inr (Or.inl ⟨rfl,by simp,rfl,rfl,hl,by simpa using h5,g,?_⟩),Fr.put H l _ (fun _ => rfl),fun l q => Or.inl q⟩
        simp [Eff.on,Heap.get_put]
      | _ => exact h.elim
    · obtain ⟨x',f,h1,h2,h3,h4⟩ := h.full.append (ρ := ρ) hy hne hs hb hb2
      exact ⟨x',f,h1,Or.inr (Or.inr h2),h3.mono fun t _ q => q.elim,fun l q => Or.inr (h4 l q)⟩
  · obtain ⟨x',f,h1,h2,h3,h4⟩ := h.append (ρ := ρ) hy hs hb hb2
    exact ⟨x',f,h1,Or.inr (Or.inr h2),h3,h4⟩
end
/-- A slice that grows. -/
structure GS where
  e : Nat
  sz : Nat
  x : AV
  els : List (List AV)
/-- Places and what lies in them; slices that grow, each in a place of its own. -/
structure Sg (S : Nat → Prop) (H0 : Heap) (L : List (Nat × AObj)) (G : List GS) (H : Heap) : Prop where
  st : St S H0 L H
  gr : ∀ g ∈ G,GG H g.e g.sz g.x g.els
  own : ∀ g ∈ G,∀ l,g.x.lies l → S l ∨ H0.sz ≤ l
  off : ∀ g ∈ G,∀ q ∈ L,¬ g.x.lies q.1
  dis : G.Pairwise fun a b => ∀ l,a.x.lies l → ¬ b.x.lies l
section
variable {Q : AV → Heap → Prop} {K : AV → Heap → Res} {H H0 H1 : Heap} {S : Nat → Prop} {L : List (Nat × AObj)} {G : List GS} {ρ : Addr → Option Value}
theorem St.sg (s : St S H0 L H) : Sg S H0 L [] H := ⟨s,by simp,by simp,by simp,.nil⟩
theorem Sg.fr (s : Sg S H0 L G H) : Fr S H0 H := s.st.fr
theorem Sg.at (s : Sg S H0 L G H) (i : Nat) {n : Nat} {o : AObj} (h : L[i]? = some (n,o)) : H.get n = o := s.st.at i h
theorem Sg.lt' (s : Sg S H0 L G H) (i : Nat) {n : Nat} {o : AObj} (h : L[i]? = some (n,o)) : n < H.sz := s.st.lt' i h
theorem Sg.els (s : Sg S H0 L G H) (i : Nat) {g : GS} (h : G[i]? = some g) : Els ρ H g.sz g.x g.els := (s.gr g (List.mem_of_getElem? h)).toEls
theorem Sg.gg (s : Sg S H0 L G H) (i : Nat) {g : GS} (h : G[i]? = some g) : GG H g.e g.sz g.x g.els := s.gr g (List.mem_of_getElem? h)
/-- A slice that is still nil. -/
theorem Sg.nils (s : Sg S H0 L G H) (e sz : Nat) : Sg S H0 L (G ++ [⟨e,sz,.nils,[]⟩]) H where
  st := s.st
  gr := by
    intro g hg
    rcases List.mem_append.1 hg with q | q
    · exact s.gr g q
    · simp at q; subst q; exact GG.nils H e sz
  own := by
    intro g hg
    rcases List.mem_append.1 hg with q | q
    · exact s.own g q
    · simp at q; subst q; intro l h; exact h.elim
  off := by
    intro g hg
    rcases List.mem_append.1 hg with q | q
    · exact s.off g q
    · simp at q; subst q; intro q' _ h; exact h.elim
  dis := by
    rw [List.pairwise_append]
    refine ⟨s.dis,by simp,?_⟩
    intro a ha b hb l h1 h2
    simp at hb; subst hb; exact h2.elim
theorem Sg.new1 (s : Sg S H0 L G H) (o : AObj) : Sg S H0 (L ++ [(H.sz,o)]) G (H.new o) where
  st := s.st.new1 o
  gr := fun g hg => (s.gr g hg).frame Nop (Fr.new Nop H o) fun _ _ q => q
  own := s.own
  off := by
    intro g hg q hq
    rcases List.mem_append.1 hq with h | h
    · exact s.off g hg q h
    · simp at h; subst h
      intro hl
      have := (s.gr g hg).lt _ hl
      simp at this
  dis := s.dis
theorem map_fst_set (i n : Nat) (o o' : AObj) (h : L[i]? = some (n,o)) : ∀ q ∈ L.set i (n,o'),∃ q' ∈ L,q'.1 = q.1 := by
  intro q hq
  obtain ⟨j,hj,rfl⟩ := List.mem_iff_getElem.1 hq
  rw [List.getElem_set]
  split
  · exact ⟨(n,o),List.mem_of_getElem? h,rfl⟩
  · rw [List.length_set] at hj
    exact ⟨L[j],List.getElem_mem hj,rfl⟩
theorem Sg.put1 (s : Sg S H0 L G H) (i : Nat) {n : Nat} {o : AObj} (o' : AObj) (h : L[i]? = some (n,o)) : Sg S H0 (L.set i (n,o')) G (H.put n o') where
  st := s.st.put1 i o' h
  gr := fun g hg => (s.gr g hg).frame (fun t => t = n) (Fr.put H n o' fun _ => rfl) fun l hl e => s.off g hg (n,o) (List.mem_of_getElem? h) (e ▸ hl)
  own := s.own
  off := by
    intro g hg q hq
    obtain ⟨q',h1,h2⟩ := map_fst_set i n o o' h q hq
    rw [← h2]
    exact s.off g hg q' h1
  dis := s.dis
theorem Sg.frame (s : Sg S H0 L G H) {S1 : Nat → Prop} (f : Fr S1 H H1) (h1 : ∀ q ∈ L,¬ S1 q.1) (h2 : ∀ l,l < H0.sz → S1 l → S l) (h3 : ∀ g ∈ G,∀ l,g.x.lies l → ¬ S1 l) : Sg S H0 L G H1 :=
  ⟨s.st.frame f h1 h2,fun g hg => (s.gr g hg).frame S1 f (h3 g hg),s.own,s.off,s.dis⟩
theorem Sg.frame0 (s : Sg S H0 L G H) (f : Fr Nop H H1) : Sg S H0 L G H1 := s.frame f (fun _ _ q => q) (fun _ _ q => q.elim) fun _ _ _ _ q => q
-- steps
theorem Sg.newP (s : Sg S H0 L G H) {o : AObj} (hk : ∀ n H1,Sg S H0 (L ++ [(n,o)]) G H1 → H.sz ≤ n → Fr Nop H H1 → Ret Q (K (.ptr n 0 0) H1)) : Ret Q (effK H (some (.ptr H.sz 0 0,.new o)) K) := by
  rw [effK_new]; exact hk _ _ (s.new1 o) (Nat.le_refl _) (Fr.new Nop H o)
theorem Sg.newM (s : Sg S H0 L G H) (hk : ∀ n H1,Sg S H0 (L ++ [(n,.map [] 0)]) G H1 → H.sz ≤ n → Fr Nop H H1 → Ret Q (K (.mp n) H1)) : Ret Q (effK H (some (makeMapA H)) K) := by
  have : some (makeMapA H) = some (AV.mp H.sz,Eff.new (.map [] 0)) := rfl
  rw [this,effK_new]; exact hk _ _ (s.new1 _) (Nat.le_refl _) (Fr.new Nop H _)
theorem Sg.newS (s : Sg S H0 L G H) {o : AObj} {a c : Nat} {m : Bool} (hk : ∀ n H1,Sg S H0 (L ++ [(n,o)]) G H1 → H.sz ≤ n → Fr Nop H H1 → Ret Q (K (.sl n 0 0 a c m) H1)) : Ret Q (effK H (some (.sl H.sz 0 0 a c m,.new o)) K) := by
  rw [effK_new]; exact hk _ _ (s.new1 o) (Nat.le_refl _) (Fr.new Nop H o)
theorem Sg.mkS (s : Sg S H0 L G H) {o : AObj} {a c : Nat} {m : Bool} (hu : o.under H.sz = true) (hk : ∀ n H1,Sg S H0 (L ++ [(n,o)]) G H1 → H.sz ≤ n → Fr Nop H H1 → Ret Q (K (.sl n 0 0 a c m) H1)) : Ret Q (mkK H (some (.sl H.sz 0 0 a c m,.new o)) true K) := by
  rw [mkK_new _ _ _ _ hu]; exact hk _ _ (s.new1 o) (Nat.le_refl _) (Fr.new Nop H o)
theorem Sg.mkP (s : Sg S H0 L G H) {o : AObj} (hu : o.under H.sz = true) (hk : ∀ n H1,Sg S H0 (L ++ [(n,o)]) G H1 → H.sz ≤ n → Fr Nop H H1 → Ret Q (K (.ptr n 0 0) H1)) : Ret Q (mkK H (some (.ptr H.sz 0 0,.new o)) true K) := by
  rw [mkK_new _ _ _ _ hu]; exact hk _ _ (s.new1 o) (Nat.le_refl _) (Fr.new Nop H o)
/-- An empty slice of its own, that is to grow. -/
theorem Sg.newG (s : Sg S H0 L G H) {e e' sz : Nat} (hk : ∀ n H1,Sg S H0 L (G ++ [⟨e,sz,.sl n 0 0 0 0 false,[]⟩]) H1 → H.sz ≤ n → Fr Nop H H1 → Ret Q (K (.sl n 0 0 0 0 false) H1)) : Ret Q (effK H (some (.sl H.sz 0 0 0 0 false,.new (.cells 0 e' (0,0) false []))) K) := by
  rw [effK_new]
  have s1 := s.frame0 (Fr.new Nop H (.cells 0 e' (0,0) false []))
  have hlt : H.sz < (H.new (.cells 0 e' (0,0) false [])).sz := by rw [Heap.sz_new]; omega
  refine hk _ _ ⟨s1.st,?_,?_,?_,?_⟩ (Nat.le_refl _) (Fr.new Nop H _)
  · intro g hg
    rcases List.mem_append.1 hg with q | q
    · exact s1.gr g q
    · simp at q; subst q; exact GG.of_new hlt (Heap.get_new_same ..)
  · intro g hg
    rcases List.mem_append.1 hg with q | q
    · exact s1.own g q
    · simp at q; subst q; intro l h; have e : H.sz = l := h; subst e; exact Or.inr s.fr.sz
  · intro g hg
    rcases List.mem_append.1 hg with q | q
    · exact s1.off g q
    · simp at q; subst q; intro q' hq h; have e : H.sz = q'.1 := h; have := s.st.lt q' hq; omega
  · rw [List.pairwise_append]
    refine ⟨s1.dis,by simp,?_⟩
    intro a ha b hb l h1 h2
    simp at hb; subst hb
    have e : H.sz = l := h2
    have := (s.gr a ha).lt l h1; omega
/-- A slice of its own that is laid full, and is to grow. -/
theorem Sg.newF (s : Sg S H0 L G H) {e sz n : Nat} {cs : List AV} (els : List (List AV)) (hcs : els.flatten = cs) (hn : els.length = n) (hs : ∀ r ∈ els,r.length = sz) (hk : ∀ l H1,Sg S H0 L (G ++ [⟨e,sz,.sl l 0 0 n n false,els⟩]) H1 → H.sz ≤ l → Fr Nop H H1 → Ret Q (K (.sl l 0 0 n n false) H1)) : Ret Q (effK H (some (.sl H.sz 0 0 n n false,.new (.cells 0 e (0,0) false cs))) K) := by
  subst hcs
  rw [effK_new]
  have s1 := s.frame0 (Fr.new Nop H (.cells 0 e (0,0) false els.flatten))
  have hlt : H.sz < (H.new (.cells 0 e (0,0) false els.flatten)).sz := by rw [Heap.sz_new]; omega
  refine hk _ _ ⟨s1.st,?_,?_,?_,?_⟩ (Nat.le_refl _) (Fr.new Nop H _)
  · intro g hg
    rcases List.mem_append.1 hg with q | q
    · exact s1.gr g q
    · simp at q; subst q; exact GG.of_full hlt hn hs (Heap.get_new_same ..)
  · intro g hg
    rcases List.mem_append.1 hg with q | q
    · exact s1.own g q
    · simp at q; subst q; intro l h; have e : H.sz = l := h; subst e; exact Or.inr s.fr.sz
  · intro g hg
    rcases List.mem_append.1 hg with q | q
    · exact s1.off g q
    · simp at q; subst q; intro q' hq h; have e : H.sz = q'.1 := h; have := s.st.lt q' hq; omega
  · rw [List.pairwise_append]
    refine ⟨s1.dis,by simp,?_⟩
    intro a ha b hb l h1 h2
    simp at hb; subst hb
    have e : H.sz = l := h2
    have := (s.gr a ha).lt l h1; omega
theorem Sg.st1 (s : Sg S H0 L G H) (i : Nat) {n v e o : Nat} {g : Bool} {c : List AV} {x : AV} (h : L[i]? = some (n,.cells v e (0,0) g c)) (hx : scal x = true) (ho : o < c.length)
    (hk : ∀ H1,Sg S H0 (L.set i (n,.cells v e (0,0) g (c.set o x))) G H1 → H1.sz = H.sz → Fr (fun t => t = n) H H1 → Ret Q (K (.tup []) H1)) : Ret Q (effK H (stA 0 H 1 (.ptr n v o) x) K) := by
  rw [Ev.st1 o x (s.at i h) hx ho,effK_put]
  exact hk _ (s.put1 i _ h) rfl (Fr.put _ _ _ fun _ => rfl)
theorem Sg.stN (s : Sg S H0 L G H) (i : Nat) {n v e o m : Nat} {g : Bool} {c cs : List AV} (h : L[i]? = some (n,.cells v e (0,0) g c)) (hl : cs.length = m) (hs : cs.all AV.solid = true) (ho : o + m ≤ c.length)
    (hk : ∀ H1,Sg S H0 (L.set i (n,.cells v e (0,0) g (layA c o cs))) G H1 → H1.sz = H.sz → Fr (fun t => t = n) H H1 → Ret Q (K (.tup []) H1)) : Ret Q (effK H (stA 0 H m (.ptr n v o) (.agg cs)) K) := by
  rw [stA_agg_ptr _ _ _ _ _ _ hl,s.at i h,stC_many _ _ _ _ _ _ _ hs (by omega),effK_put]
  exact hk _ (s.put1 i _ h) rfl (Fr.put _ _ _ fun _ => rfl)
theorem Sg.stW (s : Sg S H0 L G H) (i : Nat) {n v e m : Nat} {g : Bool} {c cs : List AV} (h : L[i]? = some (n,.cells v e (0,0) g c)) (hl : cs.length = m) (hc : c.length = m) (hs : cs.all AV.solid = true)
    (hk : ∀ H1,Sg S H0 (L.set i (n,.cells v e (0,0) g cs)) G H1 → H1.sz = H.sz → Fr (fun t => t = n) H H1 → Ret Q (K (.tup []) H1)) : Ret Q (effK H (stA 0 H m (.ptr n v 0) (.agg cs)) K) := by
  refine s.stN i h hl hs (by omega) fun H1 s1 z1 f1 => ?_
  rw [lay_all c cs (by omega)] at s1
  exact hk H1 s1 z1 f1
/-- A local that is a struct: laid, and filled. -/
theorem Sg.var {m e : Nat} {z cs : List AV} {K : AV → AV → Heap → Res} (s : Sg S H0 L G H) (hl : cs.length = m) (hc : z.length = m) (hs : cs.all AV.solid = true)
    (hk : ∀ n H1,Sg S H0 (L ++ [(n,.cells 0 e (0,0) false cs)]) G H1 → H.sz ≤ n → Fr Nop H H1 → Ret Q (K (.ptr n 0 0) (.tup []) H1)) :
    Ret Q (effK H (some (.ptr H.sz 0 0,.new (newCells e false z))) fun x H => effK H (stA 0 H m x (.agg cs)) (K x)) := by
  refine s.newP fun n H1 s1 z1 f1 => ?_
  have hi : (L ++ [(n,newCells e false z)])[L.length]? = some (n,.cells 0 e (0,0) false z) := by rw [List.getElem?_append_right (Nat.le_refl _),Nat.sub_self]; rfl
  refine s1.stW L.length hi hl hc hs fun H2 s2 z2 f2 => ?_
  have : (L ++ [(n,newCells e false z)]).set L.length (n,.cells 0 e (0,0) false cs) = L ++ [(n,.cells 0 e (0,0) false cs)] := by
    rw [List.set_append_right _ _ (Nat.le_refl _),Nat.sub_self]; rfl
  rw [this] at s2
  exact hk n H2 s2 z1 (f1.trans' f2 fun l h1 h2 => by omega)
theorem pairwise_get {α : Type} {R : α → α → Prop} {l : List α} (h : l.Pairwise R) {i j : Nat} {a b : α} (hi : l[i]? = some a) (hj : l[j]? = some b) (hij : i < j) : R a b := by
  obtain ⟨h1,e1⟩ := List.getElem?_eq_some_iff.1 hi
  obtain ⟨h2,e2⟩ := List.getElem?_eq_some_iff.1 hj
  subst e1; subst e2
  exact (List.pairwise_iff_getElem.1 h) i j h1 h2 hij
/-- One of the slices grows. -/
theorem Sg.app (s : Sg S H0 L G H) (i : Nat) {by_ : Nat} {g : GS} {y : AV} {ys : List (List AV)} (h : G[i]? = some g) (hy : Els ρ H g.sz y ys) (hs : ∀ r ∈ ys,r.all AV.solid = true) (hb : (g.els.length + ys.length) * by_ ≤ 70368744177664) (hb2 : g.els.length + ys.length ≤ 70368744177664)
    (hk : ∀ x' H1,Sg S H0 L (G.set i ⟨g.e,g.sz,x',g.els ++ ys⟩) H1 → Fr g.x.lies H H1 → (∀ l,x'.lies l → g.x.lies l ∨ H.sz ≤ l) → scal x' = true → Ret Q (K x' H1)) : Ret Q (effK H (apA ρ 0 H g.e g.sz by_ g.x y) K) := by
  have hm := List.mem_of_getElem? h
  obtain ⟨x',f,ea,G',fr,hl⟩ := (s.gr g hm).append hy hs hb hb2
  rw [ea,effK_on]
  obtain ⟨hi,he⟩ := List.getElem?_eq_some_iff.1 h
  -- the others
  have other : ∀ g' ∈ G.set i ⟨g.e,g.sz,x',g.els ++ ys⟩,g' = ⟨g.e,g.sz,x',g.els ++ ys⟩ ∨ (g' ∈ G ∧ ∀ l,g'.x.lies l → ¬ g.x.lies l) := by
    intro g' hg'
    obtain ⟨j,hj,rfl⟩ := List.mem_iff_getElem.1 hg'
    rw [List.getElem_set]
    rw [List.length_set] at hj
    split
    · exact Or.inl rfl
    · rename_i hne
      refine Or.inr ⟨List.getElem_mem hj,?_⟩
      rcases Nat.lt_or_gt_of_ne hne with q | q
      · have := pairwise_get s.dis h (List.getElem?_eq_getElem hj) q
        exact fun l h1 h2 => this l h2 h1
      · exact pairwise_get s.dis (List.getElem?_eq_getElem hj) h q
  have low : ∀ l,l < H0.sz → g.x.lies l → S l := fun l h1 h2 => (s.own g hm l h2).resolve_right (by omega)
  refine hk x' _ ⟨s.st.frame fr (fun q hq hl' => s.off g hm q hq hl') low,?_,?_,?_,?_⟩ fr hl ?_
  · intro g' hg'
    rcases other g' hg' with rfl | ⟨h1,h2⟩
    · exact G'
    · exact (s.gr g' h1).frame _ fr h2
  · intro g' hg'
    rcases other g' hg' with rfl | ⟨h1,h2⟩
    · intro l hl'
      rcases hl l hl' with q | q
      · exact s.own g hm l q
      · exact Or.inr (Nat.le_trans s.fr.sz q)
    · exact s.own g' h1
  · intro g' hg' q hq
    rcases other g' hg' with rfl | ⟨h1,h2⟩
    · intro hl'
      rcases hl _ hl' with q' | q'
      · exact s.off g hm q hq q'
      · have := s.st.lt q hq; omega
    · exact s.off g' h1 q hq
  · rw [List.pairwise_iff_getElem]
    intro a b ha hb hab l
    rw [List.length_set] at ha hb
    rw [List.getElem_set,List.getElem_set]
    have base := pairwise_get s.dis (List.getElem?_eq_getElem ha) (List.getElem?_eq_getElem hb) hab
    split
    · rename_i e1
      subst e1
      rw [if_neg (by omega)]
      intro h1 h2
      rcases hl l h1 with q | q
      · rw [he] at base; exact base l q h2
      · have := (s.gr _ (List.getElem_mem hb)).lt l h2; omega
    · split
      · rename_i e1 e2
        subst e2
        intro h1 h2
        rcases hl l h2 with q | q
        · rw [he] at base; exact base l h1 q
        · have := (s.gr _ (List.getElem_mem ha)).lt l h1; omega
      · exact base l
  · exact G'.scal
theorem Sg.dropG {R : List GS} (s : Sg S H0 L (G ++ R) H) : Sg S H0 L G H :=
  ⟨s.st,fun g hg => s.gr g (List.mem_append_left _ hg),fun g hg => s.own g (List.mem_append_left _ hg),fun g hg => s.off g (List.mem_append_left _ hg),(List.pairwise_append.1 s.dis).1⟩
theorem Sg.drop {R : List (Nat × AObj)} (s : Sg S H0 (L ++ R) G H) : Sg S H0 L G H :=
  ⟨s.st.drop,s.gr,s.own,fun g hg q hq => s.off g hg q (List.mem_append_left _ hq),s.dis⟩
end
end Go.Ev
namespace Go.Ev
theorem GG.eqv {H : Heap} {e sz : Nat} {x : AV} {els : List (List AV)} (h : GG H e sz x els) : AV.eqv x x = true := by
  rcases h with ⟨_,h⟩ | h | h
  · cases x <;> first | exact h.elim | exact eqv_sl ..
  · cases x <;> first | exact h.elim | exact eqv_sl ..
  · cases x <;> first | exact h.elim | exact eqv_sl .. | exact eqv_nils
end Go.Ev
namespace Go.Ev
open Go.RowKit
theorem layA_row : ∀ (els : List (List AV)) (i sz : Nat) (r : List AV),(∀ q ∈ els,q.length = sz) → i < els.length → r.length = sz → layA els.flatten (i * sz) r = (els.set i r).flatten
  | [],i,_,_,_,h,_ => by simp at h
  | q :: els,0,sz,r,hq,_,hr => by
    have h1 := hq q (by simp)
    simp only [Nat.zero_mul,List.flatten_cons,List.set_cons_zero]
    unfold layA
    simp [hr,← h1]
  | q :: els,i + 1,sz,r,hq,h,hr => by
    have h1 := hq q (by simp)
    have ih := layA_row els i sz r (fun a ha => hq a (by simp [ha])) (by simpa using h) hr
    simp only [List.flatten_cons,List.set_cons_succ]
    rw [← ih]
    unfold layA
    have e1 : (i + 1) * sz = q.length + i * sz := by rw [Nat.succ_mul,h1,Nat.add_comm]
    rw [e1,List.take_append,List.drop_append]
    have e2 : q.take (q.length + i * sz) = q := List.take_of_length_le (by omega)
    have e3 : q.drop (q.length + i * sz + r.length) = [] := List.drop_of_length_le (by omega)
    have e4 : q.length + i * sz - q.length = i * sz := by omega
    have e5 : q.length + i * sz + r.length - q.length = i * sz + r.length := by omega
    rw [e2,e3,e4,e5,List.nil_append,List.append_assoc,List.append_assoc,List.append_assoc]
theorem layA_tail (els : List (List AV)) (i sz : Nat) (zs : List (List AV)) (hq : ∀ q ∈ els,q.length = sz) (hz : ∀ q ∈ zs,q.length = sz) (hi : i ≤ els.length) (hl : zs.length = els.length - i) : layA els.flatten (i * sz) zs.flatten = (els.take i ++ zs).flatten := by
  have h1 : els.flatten.length = els.length * sz := els_length els sz hq
  have h2 : zs.flatten.length = zs.length * sz := els_length zs sz hz
  have h3 : (els.take i).flatten.length = i * sz := by
    rw [els_length _ sz (fun q hq' => hq q (List.mem_of_mem_take hq')),List.length_take,Nat.min_eq_left hi]
  have e : els.flatten = (els.take i).flatten ++ (els.drop i).flatten := by rw [← List.flatten_append,List.take_append_drop]
  unfold layA
  rw [List.flatten_append]
  have t1 : els.flatten.take (i * sz) = (els.take i).flatten := by rw [e,List.take_left' h3]
  have t2 : els.flatten.drop (i * sz + zs.flatten.length) = [] := by
    refine List.drop_of_length_le ?_
    rw [h1,h2,hl,← Nat.add_mul]
    exact Nat.mul_le_mul_right _ (by omega)
  rw [t1,t2,List.append_nil]
section
variable {ρ : Addr → Option Value} {H H' : Heap} {e sz : Nat} {x y : AV} {els ys : List (List AV)} {Q : AV → Heap → Prop} {K : AV → Heap → Res}
/-- A slice with something in it: where it lies. -/
theorem GG.place (h : GG H e sz x els) (hne : els ≠ []) : ∃ l v n m,x = .sl l v 0 n n m ∧ n = els.length ∧ l < H.sz ∧ (∀ r ∈ els,r.length = sz) ∧ (∃ g,H.get l = .cells v e (0,0) g els.flatten) ∧
    ∀ H' els',els'.length = els.length → (∀ r ∈ els',r.length = sz) → H.sz ≤ H'.sz → (∃ g,H'.get l = .cells v e (0,0) g els'.flatten) → GG H' e sz x els' := by
  rcases h with ⟨rfl,_⟩ | h | h
  · exact absurd rfl hne
  · cases x with
    | sl l v o n c m =>
      obtain ⟨rfl,rfl,rfl,rfl,hl,h5,g,hg⟩ := h
      exact ⟨l,v,_,false,rfl,rfl,hl,h5,⟨g,hg⟩,fun H' els' h1 h2 h3 ⟨g',hg'⟩ => Or.inr (Or.inl ⟨rfl,h1.symm,rfl,rfl,Nat.lt_of_lt_of_le hl h3,h2,g',hg'⟩)⟩
    | _ => exact h.elim
  · cases x with
    | nils => exact absurd h hne
    | sl l v o n c m =>
      obtain ⟨rfl,rfl,rfl,rfl,hl,h5,g,hg⟩ := h
      exact ⟨l,v,_,true,rfl,rfl,hl,h5,⟨g,hg⟩,fun H' els' h1 h2 h3 ⟨g',hg'⟩ => Or.inr (Or.inr ⟨rfl,h1.symm,rfl,rfl,Nat.lt_of_lt_of_le hl h3,h2,g',hg'⟩)⟩
    | _ => exact h.elim
/-- An element is written. -/
theorem GG.stE (h : GG H e sz x els) (i : Nat) (hi : i < els.length) {r : List AV} (hr : r.length = sz) (hs : r.all AV.solid = true)
    (hk : ∀ H1,GG H1 e sz x (els.set i r) → H1.sz = H.sz → Fr x.lies H H1 → Ret Q (K (.tup []) H1)) : Ret Q (effK H (stA 0 H sz (elp sz x i 0) (.agg r)) K) := by
  obtain ⟨l,v,n,m,rfl,hn,hl,hrow,⟨g,hg⟩,back⟩ := h.place (by intro q; subst q; simp at hi)
  have hlen := els_length els sz hrow
  have hle : i * sz + sz ≤ els.length * sz := by rw [← Nat.succ_mul]; exact Nat.mul_le_mul_right _ hi
  have e0 : elp sz (.sl l v 0 n n m) i 0 = .ptr l v (i * sz) := by simp [elp]
  rw [e0,stA_agg_ptr _ _ _ _ _ _ hr,hg,stC_many _ _ _ _ _ _ _ hs (by omega),effK_put,layA_row els i sz r hrow hi hr]
  refine hk _ (back _ _ (by simp) ?_ (Nat.le_refl _) ⟨g,Heap.get_put_same ..⟩) rfl (Fr.put _ _ _ fun _ => rfl)
  intro q hq
  rcases List.mem_or_eq_of_mem_set hq with q' | q'
  · exact hrow q q'
  · rw [q']; exact hr
theorem GG.st1 (h : GG H e 1 x els) (i : Nat) (hi : i < els.length) {a : AV} (hs : Ev.scal a = true)
    (hk : ∀ H1,GG H1 e 1 x (els.set i [a]) → H1.sz = H.sz → Fr x.lies H H1 → Ret Q (K (.tup []) H1)) : Ret Q (effK H (stA 0 H 1 (elp 1 x i 0) a) K) := by
  obtain ⟨l,v,n,m,rfl,hn,hl,hrow,⟨g,hg⟩,back⟩ := h.place (by intro q; subst q; simp at hi)
  have hlen := els_length els 1 hrow
  have e0 : elp 1 (.sl l v 0 n n m) i 0 = .ptr l v (i * 1) := by simp [elp]
  have hlt : i * 1 < els.flatten.length := by omega
  rw [e0,stA_one_ptr _ _ _ _ _ hs,hg,stC_one _ _ _ _ _ _ _ hs hlt,effK_put]
  have : els.flatten.set (i * 1) a = (els.set i [a]).flatten := by
    rw [← lay_one _ _ _ hlt]; exact layA_row els i 1 [a] hrow hi rfl
  rw [this]
  refine hk _ (back _ _ (by simp) ?_ (Nat.le_refl _) ⟨g,Heap.get_put_same ..⟩) rfl (Fr.put _ _ _ fun _ => rfl)
  intro q hq
  rcases List.mem_or_eq_of_mem_set hq with q' | q'
  · exact hrow q q'
  · rw [q']; rfl
theorem repeat_flat (z : List AV) : ∀ n,repeatL z n = (List.replicate n z).flatten
  | 0 => rfl
  | n + 1 => by rw [repeatL,repeat_flat z n,List.replicate_succ,List.flatten_cons]
/-- The rest is cleared. -/
theorem GG.clr {C : Ctx} {t : TypeId} (h : GG H e sz x els) (lo : Nat) (hlo : lo < els.length) {z : AV} {zc : List AV} (ht : C.P.underlying t = some (.slice e)) (hz : zeroA C.P e = some z) (hzc : z.cells = zc) (hzl : zc.length = sz) (hz0 : 0 < sz) (hzs : zc.all AV.solid = true)
    (k : IntKind) : ∃ y,slS sz x (some (.int k lo)) none none = some y ∧ ∀ {Q : AV → Heap → Prop} {K : AV → Heap → Res},(∀ H1,GG H1 e sz x (els.take lo ++ List.replicate (els.length - lo) zc) → H1.sz = H.sz → Fr x.lies H H1 → Ret Q (K (.tup []) H1)) → Ret Q (effK H (builtinA C 0 H .clear #[t] [y]) K) := by
  subst hzc
  obtain ⟨l,v,n,m,rfl,hn,hl,hrow,⟨g,hg⟩,back⟩ := h.place (by intro q; subst q; simp at hlo)
  subst hn
  have hb : Nat.ble els.length els.length = true := Nat.ble_eq_true_of_le (Nat.le_refl _)
  have a3 : decide ((0 : Int) ≤ lo) = true := by simp
  have a5 : decide ((lo : Int) ≤ (els.length : Nat)) = true := by simp; omega
  have hB : boundsA els.length els.length (some (.int k lo)) none none = some (lo,els.length,els.length) := by
    simp only [boundsA,Option.bind_some,boundA,asInt,a3,a5,Bool.and_self,cond_true,Int.toNat_natCast]
  have hlc : (lo == els.length) = false := by simp; omega
  have hcl : (els.length == lo) = false := by simp; omega
  refine ⟨.sl l v (lo * sz) (els.length - lo) (els.length - lo) m,?_,?_⟩
  · simp only [slS,sliceSl,hb,Bool.not_true,cond_false,hB,Option.bind_some,hlc,hcl]
    cases m <;> simp
  · intro Q K hk
    have hlen := els_length els sz hrow
    have hrep : ∀ q ∈ List.replicate (els.length - lo) z.cells,q.length = sz := fun q hq => by rw [(List.mem_replicate.1 hq).2]; exact hzl
    have hlr := els_length (List.replicate (els.length - lo) z.cells) sz hrep
    rw [List.length_replicate] at hlr
    have hn0 : (els.length - lo == 0) = false := by simp; omega
    have hz1 : (z.cells.length == 0) = false := by rw [hzl]; simp; omega
    have hsol : (List.replicate (els.length - lo) z.cells).flatten.all AV.solid = true := by
      rw [List.all_eq_true]; intro a ha
      obtain ⟨r,hr,har⟩ := List.mem_flatten.1 ha
      rw [(List.mem_replicate.1 hr).2] at har
      exact List.all_eq_true.1 hzs a har
    have hsum : lo * sz + (els.length - lo) * sz = els.length * sz := by rw [← Nat.add_mul]; congr 1; omega
    have hle : lo * sz + (List.replicate (els.length - lo) z.cells).flatten.length ≤ els.flatten.length := by rw [hlr,hlen,hsum]; exact Nat.le_refl _
    have hc : builtinA C 0 H .clear #[t] [.sl l v (lo * sz) (els.length - lo) (els.length - lo) m] = some (.tup [],.put l (.cells v e (0,0) g (els.take lo ++ List.replicate (els.length - lo) z.cells).flatten)) := by
      show (clearA C 0 H t (.sl l v (lo * sz) (els.length - lo) (els.length - lo) m)).map skips = _
      simp only [clearA,ht,hn0,cond_false,hz,Option.bind_some,hz1,repeat_flat]
      rw [storeN_of _ (lo * sz) hg hle hsol,layA_tail els lo sz _ hrow hrep (by omega) (by simp)]
      rfl
    rw [hc,effK_put]
    refine hk _ (back _ _ (by rw [List.length_append,List.length_take,List.length_replicate]; omega) ?_ (Nat.le_refl _) ⟨g,Heap.get_put_same ..⟩) rfl (Fr.put _ _ _ fun _ => rfl)
    intro q hq
    rcases List.mem_append.1 hq with q' | q'
    · exact hrow q (List.mem_of_mem_take q')
    · exact hrep q q'
end
end Go.Ev

-- part EvNx
/- EvNx: the next entry of a map: whichever it is. -/
set_option linter.unusedVariables false
set_option linter.unusedSimpArgs false
namespace Go.Ev
open Go.RowKit
section
variable {Q : AV → Heap → Prop} {K : AV → Heap → Res} {H : Heap} {it m c : Nat} {seen : List Nat} {es : List (AV × AV × Nat)}
theorem next_guard (hlt : ∀ e ∈ es,e.2.2 < c) : (!seen.isEmpty && !es.isEmpty && es.all (fun e => decide (e.2.2 ≥ c))) = false := by
  cases es with
  | nil => simp
  | cons e r =>
    have := hlt e (by simp)
    have h : decide (e.2.2 ≥ c) = false := decide_eq_false (by omega)
    rw [List.all_cons,h]; simp
theorem unseen_nil (h : ∀ e ∈ es,e.2.2 ∈ seen) : (es.filter fun e => !seen.contains e.2.2) = [] := by
  rw [List.filter_eq_nil_iff]; intro e he; simp [h e he]
/-- No entry is left. -/
theorem nextK_over (h1 : H.get it = .iter (some m) c seen c) (h2 : H.get m = .map es c) (hlt : ∀ e ∈ es,e.2.2 < c) (hall : ∀ e ∈ es,e.2.2 ∈ seen) : nextK 0 H (.ptr it 0 0) false K = K (.tup [.bool false]) H := by
  have hg := next_guard (seen := seen) hlt
  simp only [nextK,outsA,nextA,h1,h2,hg,unseen_nil hall,cond_false,anyF,strA?_eq,applyK_eq,overA]
  rfl
/-- Some entry comes. -/
theorem Ret.next (h1 : H.get it = .iter (some m) c seen c) (h2 : H.get m = .map es c) (hlt : ∀ e ∈ es,e.2.2 < c) (hex : ∃ e ∈ es,e.2.2 ∉ seen)
    (hk : ∀ e ∈ es,e.2.2 ∉ seen → Ret Q (K (.tup [.bool true,e.1,e.2.1]) (H.put it (.iter (some m) c (seen ++ [e.2.2]) c)))) : Ret Q (nextK 0 H (.ptr it 0 0) false K) := by
  have hg := next_guard (seen := seen) hlt
  have hmem : ∀ e,e ∈ (es.filter fun e => !seen.contains e.2.2) ↔ e ∈ es ∧ e.2.2 ∉ seen := fun e => by simp
  obtain ⟨F,hF⟩ : ∃ F,F = es.filter fun e => !seen.contains e.2.2 := ⟨_,rfl⟩
  rw [← hF] at hmem
  have hb : Nat.ble 0 it = true := Nat.ble_eq_true_of_le (Nat.zero_le _)
  have hall : (F.all fun e => decide (e.2.2 < c)) = true := by
    rw [List.all_eq_true]; intro e he
    exact decide_eq_true (hlt e ((hmem e).1 he).1)
  cases F with
  | nil =>
    obtain ⟨e,he,hn⟩ := hex
    have := (hmem e).2 ⟨he,hn⟩
    simp at this
  | cons e r =>
    have he := (hmem e).1 (by simp)
    cases r with
    | nil =>
      have hd : decide (e.2.2 < c) = true := decide_eq_true (hlt e he.1)
      have : nextK 0 H (.ptr it 0 0) false K = K (.tup [.bool true,e.1,e.2.1]) (H.put it (.iter (some m) c (seen ++ [e.2.2]) c)) := by
        simp only [nextK,outsA,nextA,h1,h2,hg,← hF,cond_false,hd,hb,Bool.and_self,cond_true,anyF,strA?_eq,applyK_eq]
        rfl
      rw [this]
      exact hk e he.1 he.2
    | cons e2 r =>
      have : nextK 0 H (.ptr it 0 0) false K = .any (e :: e2 :: r).length fun i => bindR (((e :: e2 :: r).map fun e => ((AV.tup [.bool true,e.1,e.2.1],Eff.put it (.iter (some m) c (seen ++ [e.2.2]) c)) : AV × Eff))[i]?) fun r => strA? true r.1 fun v => applyK true H r.2 fun H => K v H := by
        have hne : (e :: e2 :: r).isEmpty = false := rfl
        simp only [nextK,outsA,nextA,nextsA,h1,h2,hg,← hF,cond_false,hb,Bool.not_true,Bool.or_self,hne,Bool.or_false,hall,cond_true,anyF,List.map_cons,List.length_cons,List.length_map]
      rw [this]
      refine ⟨fun i hi => ?_⟩
      show (bindR (((e :: e2 :: r).map fun e => ((AV.tup [.bool true,e.1,e.2.1],Eff.put it (.iter (some m) c (seen ++ [e.2.2]) c)) : AV × Eff))[i]?) fun r => strA? true r.1 fun v => applyK true H r.2 fun H => K v H).Ok _
      rw [List.getElem?_map,List.getElem?_eq_getElem hi]
      have hm := (hmem _).1 (List.getElem_mem hi)
      have := (hk _ hm.1 hm.2).ok
      simp only [Option.map_some,bindR_some,strA?_eq,applyK_eq]
      exact this
end
section
variable {δ : Type} [DecidableEq δ] {C : Ctx} {kt t e : TypeId} {f : δ → AV} {H : Heap} {l c : Nat} {es : List (δ × AV × Nat)}
/-- A key that is there comes again, with what it has. -/
theorem put_same (K : KeyT C.P kt f) (ht : C.P.underlying t = some (.map kt e)) (hg : H.get l = mapO f es c) (d : δ) (v : AV) (hv : ∀ e ∈ es,e.2.1 = v) (h : ∃ e ∈ es,e.1 = d) :
    mapPutA C 0 H t (.mp l) (f d) v = some (.put l (mapO f es c)) := by
  have hb : Nat.ble 0 l = true := Nat.ble_eq_true_of_le (by omega)
  cases hi : es.findIdx? fun e => decide (e.1 = d) with
  | none =>
    rw [List.findIdx?_eq_none_iff] at hi
    obtain ⟨e,he,q⟩ := h
    have := hi e he
    simp [q] at this
  | some j =>
    obtain ⟨hj,hp,_⟩ := List.findIdx?_eq_some_iff_getElem.1 hi
    have hd : es[j].1 = d := by simpa using hp
    have hv' := hv es[j] (List.getElem_mem hj)
    have hl : j < (entO f es).length := by unfold entO; rw [List.length_map]; exact hj
    have hej : (entO f es)[j]? = some (f d,v,es[j].2.2) := by
      unfold entO; rw [List.getElem?_map,List.getElem?_eq_getElem hj,Option.map_some,hd,hv']
    have hm : (entO f es).modify j (fun e => (f d,v,e.2.2)) = entO f es := by
      apply List.ext_getElem?
      intro q
      rw [List.getElem?_modify]
      by_cases hq : j = q
      · subst hq; rw [hej]; simp
      · simp [hq]
    simp only [mapPutA,ht,K.chk,hb,Bool.and_self,cond_true,hg,mapO,findA_entO K d es 0,hi,Option.bind_some,List.getElem?_eq_getElem hj,Option.map_some,Nat.zero_add,hej,K.same,hm]
end
end Go.Ev
