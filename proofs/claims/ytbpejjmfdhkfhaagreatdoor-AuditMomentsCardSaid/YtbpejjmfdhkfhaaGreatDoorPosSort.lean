/- The contract of slices.Sort at this translation: it lies among the laid ones. -/
import Derived.Test.YtbpejjmfdhkfhaaGreatDoorShelf
import Derived.Shelf.Sort.Plain
